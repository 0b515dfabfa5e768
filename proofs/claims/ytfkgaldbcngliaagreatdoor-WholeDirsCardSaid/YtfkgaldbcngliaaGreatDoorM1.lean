/- Several parts in one text. -/
import Derived.Test.YtfkgaldbcngliaaGreatDoorG3
import Derived.Laws.MathBits
import Derived.Laws.Bits64b
import Derived.Lib.TrailingZeros
import Derived.Test.YtfkgaldbcngliaaGreatDoorPgN
import Derived.Shelf.Spec.BitsCarry
import Derived.RangeFuncBox
import Derived.RangeFuncLeaves
import Derived.OwnWalkIn
import Derived.TacticsInMore
import Derived.LoopNIn
import Derived.LoopIn
import Derived.Laws.BitsAllLaws
import Derived.ProofKit
import Derived.LaidMore
import Derived.OpenShut
import Derived.Stop.Joined
import Derived.SevenTiedAt
import Derived.Lib.LaidTab
import Derived.MakeChecks
import Derived.Test.YtfkgaldbcngliaaGreatDoorRows
open Go PG Go.Proofs
set_option linter.unusedSimpArgs false
set_option linter.unusedVariables false
set_option maxRecDepth 100000
namespace PG
def strip : List Nat → List Nat
  | [] => []
  | d :: l => match strip l with
    | [] => if d = 0 then [] else [d]
    | r => d :: r
theorem strip_snoc0 (l : List Nat) : strip (l ++ [0]) = strip l := by
  induction l with
  | nil => rfl
  | cons d l ih => simp only [List.cons_append, strip, ih]
theorem strip_snoc (l : List Nat) (d : Nat) (hd : d ≠ 0) : strip (l ++ [d]) = l ++ [d] := by
  induction l with
  | nil => simp [strip, hd]
  | cons c l ih =>
    simp only [List.cons_append, strip, ih]
    cases l <;> rfl
def dv (b : Nat) : List Nat → Nat
  | [] => 0
  | d :: l => d + b * dv b l
def Ok (b : Nat) (l : List Nat) : Prop := ∀ d ∈ l, d < b
theorem Ok.tail {b d : Nat} {l : List Nat} (h : Ok b (d :: l)) : Ok b l := fun x hx => h x (List.mem_cons_of_mem _ hx)
theorem Ok.head {b d : Nat} {l : List Nat} (h : Ok b (d :: l)) : d < b := h d (List.mem_cons_self ..)
theorem Ok.nil {b : Nat} : Ok b [] := fun x hx => by cases hx
theorem Ok.cons {b d : Nat} {l : List Nat} (hd : d < b) (h : Ok b l) : Ok b (d :: l) := fun x hx => by
  rcases List.mem_cons.1 hx with rfl | hx
  · exact hd
  · exact h x hx
theorem Ok.append {b : Nat} {l r : List Nat} (hl : Ok b l) (hr : Ok b r) : Ok b (l ++ r) := fun x hx => by
  rcases List.mem_append.1 hx with h | h
  · exact hl x h
  · exact hr x h
def dgF (b : Nat) : Nat → Nat → List Nat
  | 0, _ => []
  | f + 1, n => if n = 0 then [] else n % b :: dgF b f (n / b)
def dg (b n : Nat) : List Nat := dgF b n n
theorem dgF_fuel {b : Nat} (hb : 2 ≤ b) : ∀ (f g n : Nat), n ≤ f → n ≤ g → dgF b f n = dgF b g n
  | 0, g, n, hf, _ => by
    have : n = 0 := by omega
    subst this
    cases g <;> simp [dgF]
  | f + 1, 0, n, _, hg => by
    have : n = 0 := by omega
    subst this
    simp [dgF]
  | f + 1, g + 1, n, hf, hg => by
    simp only [dgF]
    split
    · rfl
    · rename_i h0
      have : n / b < n := Nat.div_lt_self (by omega) hb
      rw [dgF_fuel hb f g (n / b) (by omega) (by omega)]
theorem dg_eq {b : Nat} (hb : 2 ≤ b) (n : Nat) : dg b n = if n = 0 then [] else n % b :: dg b (n / b) := by
  cases n with
  | zero => rfl
  | succ n =>
    have : (n + 1) / b < n + 1 := Nat.div_lt_self (by omega) hb
    simp only [dg, dgF]
    rw [dgF_fuel hb n ((n + 1) / b) _ (by omega) (by omega)]
theorem dg_zero (b : Nat) : dg b 0 = [] := rfl
theorem dg_pos {b : Nat} (hb : 2 ≤ b) {n : Nat} (h : n ≠ 0) : dg b n = n % b :: dg b (n / b) := by rw [dg_eq hb, if_neg h]
theorem dv_dg {b : Nat} (hb : 2 ≤ b) (n : Nat) : dv b (dg b n) = n := by
  induction n using Nat.strongRecOn with
  | _ n ih =>
    rw [dg_eq hb]
    split
    · rename_i h; subst h; rfl
    · rename_i h
      simp only [dv]
      rw [ih (n / b) (Nat.div_lt_self (by omega) hb)]
      exact Nat.mod_add_div n b
theorem ok_dg {b : Nat} (hb : 2 ≤ b) (n : Nat) : Ok b (dg b n) := by
  induction n using Nat.strongRecOn with
  | _ n ih =>
    rw [dg_eq hb]
    split
    · exact Ok.nil
    · exact Ok.cons (Nat.mod_lt _ (by omega)) (ih (n / b) (Nat.div_lt_self (by omega) hb))
theorem strip_eq {b : Nat} (hb : 2 ≤ b) : ∀ (l : List Nat), Ok b l → strip l = dg b (dv b l)
  | [], _ => rfl
  | d :: l, h => by
    have ih := strip_eq hb l h.tail
    have hd := h.head
    simp only [strip, dv, ih]
    by_cases h0 : dv b l = 0
    · simp only [h0, dg_zero, Nat.mul_zero, Nat.add_zero]
      split
      · rename_i hd0; subst hd0; rfl
      · rename_i hd0
        rw [dg_pos hb hd0, Nat.mod_eq_of_lt hd, Nat.div_eq_of_lt hd, dg_zero]
    · have hp : d + b * dv b l ≠ 0 := by
        have : 0 < b * dv b l := Nat.mul_pos (by omega) (by omega)
        omega
      rw [dg_pos hb hp, Nat.add_mul_mod_self_left, Nat.mod_eq_of_lt hd, Nat.add_mul_div_left _ _ (by omega), Nat.div_eq_of_lt hd, Nat.zero_add, dg_pos hb h0]
theorem dv_lt {b : Nat} : ∀ (l : List Nat), Ok b l → dv b l < b ^ l.length
  | [], _ => by simp [dv]
  | d :: l, h => by
    have ih := dv_lt l h.tail
    have hd := h.head
    simp only [dv, List.length_cons, Nat.pow_succ]
    calc d + b * dv b l < b + b * dv b l := by omega
      _ = b * (dv b l + 1) := by rw [Nat.mul_add]; omega
      _ ≤ b * b ^ l.length := Nat.mul_le_mul (Nat.le_refl _) ih
      _ = b ^ l.length * b := Nat.mul_comm _ _
theorem dv_append {b : Nat} (l r : List Nat) : dv b (l ++ r) = dv b l + b ^ l.length * dv b r := by
  induction l with
  | nil => simp [dv]
  | cons d l ih =>
    simp only [List.cons_append, dv, ih, List.length_cons, Nat.pow_succ, Nat.mul_add]
    rw [Nat.mul_comm (b ^ l.length) b, Nat.mul_assoc]
    omega
theorem dg_length_le {b : Nat} (hb : 2 ≤ b) : ∀ (k n : Nat), (dg b n).length ≤ k ↔ n < b ^ k
  | 0, n => by
    rw [dg_eq hb]
    split
    · rename_i h; simp [h]
    · rename_i h; simp; omega
  | k + 1, n => by
    rw [dg_eq hb]
    split
    · rename_i h; subst h; simp [Nat.pow_pos (show 0 < b by omega)]
    · rw [List.length_cons, Nat.add_le_add_iff_right, dg_length_le hb k, Nat.pow_succ, Nat.div_lt_iff_lt_mul (by omega)]
theorem dv_get {b : Nat} (hb : 0 < b) : ∀ (l : List Nat), Ok b l → ∀ (i : Nat), l.getD i 0 = dv b l / b ^ i % b
  | [], _, i => by simp [dv]
  | d :: l, h, 0 => by
    simp only [List.getD_cons_zero, dv, Nat.pow_zero, Nat.div_one, Nat.add_mul_mod_self_left]
    rw [Nat.mod_eq_of_lt h.head]
  | d :: l, h, i + 1 => by
    simp only [List.getD_cons_succ, dv]
    rw [dv_get hb l h.tail i, Nat.pow_succ, Nat.mul_comm (b ^ i) b, ← Nat.div_div_eq_div_mul, Nat.add_mul_div_left _ _ hb, Nat.div_eq_of_lt h.head, Nat.zero_add]
def tab (b x n : Nat) : List Nat := (List.range n).map fun i => x / b ^ i % b
theorem tab_length (b x n : Nat) : (tab b x n).length = n := by simp [tab]
theorem tab_succ (b x n : Nat) : tab b x (n + 1) = tab b x n ++ [x / b ^ n % b] := by simp [tab, List.range_succ]
theorem ok_tab {b : Nat} (hb : 0 < b) (x n : Nat) : Ok b (tab b x n) := fun d hd => by
  simp only [tab, List.mem_map] at hd
  obtain ⟨i, _, rfl⟩ := hd
  exact Nat.mod_lt _ hb
theorem dv_tab {b : Nat} (x n : Nat) : dv b (tab b x n) = x % b ^ n := by
  induction n with
  | zero => simp [tab, dv, Nat.mod_one]
  | succ n ih => rw [tab_succ, dv_append, ih, tab_length, Nat.pow_succ, Nat.mod_mul]; simp [dv]
theorem fill_set {b x n i : Nat} (h : i < n) : (tab b x i ++ List.replicate (n - i) 0).set i (x / b ^ i % b) = tab b x (i + 1) ++ List.replicate (n - (i + 1)) 0 := by
  obtain ⟨k, rfl⟩ : ∃ k, n = i + 1 + k := ⟨n - (i + 1), by omega⟩
  rw [show i + 1 + k - i = k + 1 by omega, show i + 1 + k - (i + 1) = k by omega, List.replicate_succ, tab_succ, List.set_append_right _ _ (by rw [tab_length]; omega), tab_length]
  simp
def carry (A B M : Nat) : Nat := (A % M + B % M) / M
theorem carry_digit {A B M W : Nat} (hM : 0 < M) : (A / M % W + B / M % W + carry A B M) % W = (A + B) / M % W := by
  have h : (A + B) / M = A / M + B / M + carry A B M := by
    have e : A + B = (A % M + B % M) + M * (A / M + B / M) := by
      have := Nat.mod_add_div A M
      have := Nat.mod_add_div B M
      rw [Nat.mul_add]
      omega
    rw [e, Nat.add_mul_div_left _ _ hM]
    unfold carry
    omega
  rw [h, Nat.add_mod (A / M + B / M), Nat.add_mod (A / M), Nat.add_mod (A / M % W + B / M % W)]
theorem carry_next {A B M W : Nat} (hM : 0 < M) : (A / M % W + B / M % W + carry A B M) / W = carry A B (M * W) := by
  unfold carry
  rw [Nat.mod_mul, Nat.mod_mul, ← Nat.div_div_eq_div_mul]
  rw [show A % M + M * (A / M % W) + (B % M + M * (B / M % W)) = (A % M + B % M) + M * (A / M % W + B / M % W) by rw [Nat.mul_add]; omega, Nat.add_mul_div_left _ _ hM]
  congr 1
  omega
theorem carry_le {A B M : Nat} (hM : 0 < M) : carry A B M ≤ 1 := by
  unfold carry
  have h1 := Nat.mod_lt A hM
  have h2 := Nat.mod_lt B hM
  have : (A % M + B % M) / M < 2 := (Nat.div_lt_iff_lt_mul hM).2 (by omega)
  omega
theorem carry_one (A B : Nat) : carry A B 1 = 0 := by simp [carry, Nat.mod_one]
def borrow (A B M : Nat) : Nat := if A % M < B % M then 1 else 0
theorem borrow_spec {A B M : Nat} (hM : 0 < M) (h : B ≤ A) : A / M = (A - B) / M + B / M + borrow A B M := by
  have ea := Nat.mod_add_div A M
  have eb := Nat.mod_add_div B M
  have ha := Nat.mod_lt A hM
  have hb := Nat.mod_lt B hM
  unfold borrow
  split
  · rename_i hlt
    have hq : B / M < A / M := by
      rcases Nat.lt_or_ge (B / M) (A / M) with h' | h'
      · exact h'
      · have := Nat.mul_le_mul_left M h'
        omega
    have e : A - B = (A % M + M - B % M) + M * (A / M - B / M - 1) := by
      obtain ⟨k, hk⟩ : ∃ k, A / M = B / M + 1 + k := ⟨A / M - B / M - 1, by omega⟩
      rw [hk] at ea ⊢
      rw [show B / M + 1 + k - B / M - 1 = k by omega]
      rw [Nat.mul_add, Nat.mul_add] at ea
      omega
    rw [e, Nat.add_mul_div_left _ _ hM, Nat.div_eq_of_lt (show A % M + M - B % M < M by omega)]
    omega
  · rename_i hge
    have hq : B / M ≤ A / M := Nat.div_le_div_right h
    have e : A - B = (A % M - B % M) + M * (A / M - B / M) := by
      obtain ⟨k, hk⟩ : ∃ k, A / M = B / M + k := ⟨A / M - B / M, by omega⟩
      rw [hk] at ea ⊢
      rw [show B / M + k - B / M = k by omega]
      rw [Nat.mul_add] at ea
      omega
    rw [e, Nat.add_mul_div_left _ _ hM, Nat.div_eq_of_lt (show A % M - B % M < M by omega)]
    omega
theorem borrow_digit {A B M W : Nat} (hM : 0 < M) (h : B ≤ A) (hW : 0 < W) : (A / M % W + W + W - B / M % W - borrow A B M) % W = (A - B) / M % W := by
  have e := borrow_spec hM h
  have ha := Nat.mod_add_div (A / M) W
  have hb := Nat.mod_add_div (B / M) W
  have hc := Nat.mod_add_div ((A - B) / M) W
  have h1 := Nat.mod_lt (A / M) hW
  have h2 := Nat.mod_lt (B / M) hW
  have h3 := Nat.mod_lt ((A - B) / M) hW
  have h4 : borrow A B M ≤ 1 := by unfold borrow; split <;> omega
  generalize hx : (A - B) / M % W = x at *
  generalize A / M % W = a at *
  generalize B / M % W = bb at *
  generalize borrow A B M = br at *
  generalize (A - B) / M / W = r at *
  generalize A / M / W = p at *
  generalize B / M / W = q at *
  -- a + W p = x + W r + bb + W q + br
  have e2 : a + W * p = x + W * r + (bb + W * q) + br := by omega
  have : a + W + W - bb - br + W * p = x + W * (r + q + 2) := by rw [Nat.mul_add, Nat.mul_add]; omega
  have h5 := congrArg (· % W) this
  simp only [Nat.add_mul_mod_self_left] at h5
  rw [h5]
  exact Nat.mod_eq_of_lt h3
theorem borrow_next {A B M W : Nat} (hM : 0 < M) : borrow A B (M * W) = if A / M % W < B / M % W + borrow A B M then 1 else 0 := by
  have ha := Nat.mod_lt A hM
  have hb := Nat.mod_lt B hM
  unfold borrow
  rw [Nat.mod_mul, Nat.mod_mul]
  generalize A % M = a0 at *
  generalize B % M = b0 at *
  generalize A / M % W = a1 at *
  generalize B / M % W = b1 at *
  have key : a0 + M * a1 < b0 + M * b1 ↔ a1 < b1 + (if a0 < b0 then 1 else 0) := by
    rcases Nat.lt_trichotomy a1 b1 with h | h | h
    · have := Nat.mul_le_mul_left M (show a1 + 1 ≤ b1 from h)
      rw [Nat.mul_add] at this
      constructor
      · intro _; split <;> omega
      · intro _; omega
    · subst h
      split <;> omega
    · have := Nat.mul_le_mul_left M (show b1 + 1 ≤ a1 from h)
      rw [Nat.mul_add] at this
      constructor
      · intro _; omega
      · intro h'; split at h' <;> omega
  by_cases hk : a0 + M * a1 < b0 + M * b1
  · rw [if_pos hk, if_pos (key.1 hk)]
  · rw [if_neg hk, if_neg (fun h => hk (key.2 h))]
theorem borrow_one (A B : Nat) : borrow A B 1 = 0 := by simp [borrow, Nat.mod_one]
section
open Go
abbrev W : Nat := 18446744073709551616
theorem W2 : 2 ≤ W := by decide
theorem W0 : 0 < W := by decide
theorem b_and {a b : Nat} (ha : a < W) (hb : b < W) : bits .and .u64 (a : Int) (b : Int) = ((a &&& b : Nat) : Int) := bits_and_u64_nat a b ha hb
theorem b_or {a b : Nat} (ha : a < W) (hb : b < W) : bits .or .u64 (a : Int) (b : Int) = ((a ||| b : Nat) : Int) := bits_or_u64_nat a b ha hb
theorem b_shl (a k : Nat) : IntKind.wrap .u64 ((a : Int) * 2 ^ (min k 64)) = ((a * 2 ^ k % W : Nat) : Int) := by
  rw [IntKind.wrap_u64]
  rcases Nat.le_total k 64 with h | h
  · rw [Nat.min_eq_left h]
    simp
  · rw [Nat.min_eq_right h]
    obtain ⟨j, rfl⟩ : ∃ j, k = 64 + j := ⟨k - 64, by omega⟩
    rw [Nat.pow_add, show W = 2 ^ 64 from rfl, ← Nat.mul_assoc, Nat.mul_right_comm, Nat.mul_mod_left]
    omega
theorem b_shr {a : Nat} (ha : a < W) (k : Nat) : (a : Int).fdiv (2 ^ (min k 64)) = ((a / 2 ^ k : Nat) : Int) := by
  have key : ∀ m : Nat, (a : Int).fdiv (2 ^ m) = ((a / 2 ^ m : Nat) : Int) := fun m => by
    rw [Int.fdiv_eq_ediv_of_nonneg _ (Int.pow_nonneg (by decide))]
    simp
  rcases Nat.le_total k 64 with h | h
  · rw [Nat.min_eq_left h, key]
  · rw [Nat.min_eq_right h, key]
    rw [Nat.div_eq_of_lt (show a < 2 ^ 64 from ha), Nat.div_eq_of_lt (Nat.lt_of_lt_of_le (show a < 2 ^ 64 from ha) (Nat.pow_le_pow_right (by decide) h))]
theorem wrap_nat64 {a : Nat} (ha : a < W) : IntKind.wrap .u64 (a : Int) = (a : Int) := by
  have ha : a < 18446744073709551616 := ha
  rw [IntKind.wrap_u64]; omega
theorem wrap64 {i : Int} (h0 : -9223372036854775808 ≤ i) (h1 : i < 9223372036854775808) : IntKind.wrap .i64 i = i := by
  unfold IntKind.wrap
  simp [IntKind.bits, IntKind.signed]
  omega
theorem wrap8 {a : Nat} (ha : a < 256) : IntKind.wrap .u8 (a : Int) = (a : Int) := by
  unfold IntKind.wrap
  simp [IntKind.bits, IntKind.signed]
  omega
theorem bitLen_le (x m : Nat) : bitLen x ≤ m ↔ x < 2 ^ m := by
  unfold bitLen
  split
  · rename_i h; subst h; simp [Nat.two_pow_pos]
  · rename_i h; rw [← Nat.log2_lt h]; omega
theorem bitLen_zero : bitLen 0 = 0 := rfl
theorem bitLen_pos {x : Nat} (h : x ≠ 0) : 0 < bitLen x := by unfold bitLen; rw [if_neg h]; omega
theorem bitLen_div {x k : Nat} (h : 2 ^ k ≤ x) : bitLen x = k + bitLen (x / 2 ^ k) :=
  bitLen_shift x k (by have := Nat.div_pos h (Nat.two_pow_pos k); omega)
end
section
open Go
theorem dg_lt {b : Nat} (hb : 2 ≤ b) {x i : Nat} : i < (dg b x).length ↔ b ^ i ≤ x := by
  have := dg_length_le hb i x
  omega
theorem tab_dg {b : Nat} (hb : 2 ≤ b) (x : Nat) : tab b x (dg b x).length = dg b x := by
  apply List.ext_getElem
  · simp [tab_length]
  · intro i h1 h2
    have h := dv_get (show 0 < b by omega) (dg b x) (ok_dg hb x) i
    rw [dv_dg hb, List.getD_eq_getElem?_getD, List.getElem?_eq_getElem h2] at h
    simp only [tab, List.getElem_map, List.getElem_range]
    exact h.symm
theorem dg_eq_tab {b : Nat} (hb : 2 ≤ b) {x n : Nat} (h1 : n ≤ (dg b x).length) (h2 : x < b ^ n) : tab b x n = dg b x := by
  have : (dg b x).length ≤ n := (dg_length_le hb n x).2 h2
  rw [show n = (dg b x).length by omega]
  exact tab_dg hb x
def dcarry (x m M : Nat) : Nat := (2 * (x % M) + m) / M
theorem dcarry_div {x m M : Nat} (hM : 0 < M) : (2 * x + m) / M = 2 * (x / M) + dcarry x m M := by
  unfold dcarry
  have e : 2 * x + m = (2 * (x % M) + m) + M * (2 * (x / M)) := by
    have := Nat.mod_add_div x M
    rw [show M * (2 * (x / M)) = 2 * (M * (x / M)) by rw [Nat.mul_left_comm]]
    omega
  rw [e, Nat.add_mul_div_left _ _ hM, Nat.add_comm]
theorem dcarry_digit {x m M b : Nat} (hM : 0 < M) : (2 * (x / M % b) + dcarry x m M) % b = (2 * x + m) / M % b := by
  rw [dcarry_div hM, Nat.add_mod, Nat.mul_mod, Nat.mod_mod, ← Nat.mul_mod, ← Nat.add_mod]
theorem dcarry_next {x m M b : Nat} (hM : 0 < M) (hb : 0 < b) : (2 * (x / M % b) + dcarry x m M) / b = dcarry x m (M * b) := by
  have h1 : (2 * x + m) / (M * b) = 2 * (x / (M * b)) + dcarry x m (M * b) := dcarry_div (Nat.mul_pos hM hb)
  have h2 : (2 * x + m) / M = 2 * (x / M) + dcarry x m M := dcarry_div hM
  have h3 : (2 * x + m) / (M * b) = (2 * x + m) / M / b := (Nat.div_div_eq_div_mul _ _ _).symm
  have h4 : x / (M * b) = x / M / b := (Nat.div_div_eq_div_mul _ _ _).symm
  rw [h3, h2, h4] at h1
  have e : 2 * (x / M) + dcarry x m M = (2 * (x / M % b) + dcarry x m M) + b * (2 * (x / M / b)) := by
    have := Nat.mod_add_div (x / M) b
    rw [show b * (2 * (x / M / b)) = 2 * (b * (x / M / b)) by rw [Nat.mul_left_comm]]
    omega
  rw [e, Nat.add_mul_div_left _ _ hb] at h1
  omega
theorem dcarry_le {x m M : Nat} (hM : 0 < M) (hm : m ≤ 1) : dcarry x m M ≤ 1 := by
  unfold dcarry
  have h1 := Nat.mod_lt x hM
  have : (2 * (x % M) + m) / M < 2 := (Nat.div_lt_iff_lt_mul hM).2 (by omega)
  omega
theorem dcarry_one (x m : Nat) : dcarry x m 1 = m := by simp [dcarry, Nat.mod_one]
def ofl (b x k j : Nat) : Nat := if 4 * j + 4 ≤ k then 0 else x / b ^ (max k (4 * j)) % b ^ (4 * j + 4 - max k (4 * j))
theorem bitLen_topB {b k x m : Nat} (hbk : b = 2 ^ k) (hk : 1 ≤ k) (h : (dg b x).length = m + 1) : bitLen x = k * m + bitLen (x / b ^ m % b) := by
  have hb : 2 ≤ b := by
    rw [hbk]
    calc 2 = 2 ^ 1 := rfl
      _ ≤ 2 ^ k := Nat.pow_le_pow_right (by decide) hk
  have h1 : b ^ m ≤ x := (dg_lt hb).1 (by omega)
  have h2 : x < b ^ (m + 1) := (dg_length_le hb _ _).1 (by omega)
  have h3 : x / b ^ m < b := by
    rw [Nat.div_lt_iff_lt_mul (Nat.pow_pos (by omega)), ← Nat.pow_succ']
    exact h2
  have e : b ^ m = 2 ^ (k * m) := by rw [hbk, ← Nat.pow_mul]
  rw [Nat.mod_eq_of_lt h3]
  rw [e] at h1 ⊢
  exact bitLen_div h1
theorem bit_digit {k x i : Nat} (hk : 0 < k) : x / (2 ^ k) ^ (i / k) % 2 ^ k / 2 ^ (i % k) % 2 = x / 2 ^ i % 2 := by
  have hr : i % k < k := Nat.mod_lt _ hk
  have e1 : 2 ^ i = 2 ^ (k * (i / k)) * 2 ^ (i % k) := by rw [← Nat.pow_add, Nat.div_add_mod]
  have e2 : 2 ^ k = 2 ^ (i % k) * 2 ^ (k - i % k) := by rw [← Nat.pow_add]; congr 1; omega
  rw [← Nat.pow_mul, e1, ← Nat.div_div_eq_div_mul]
  generalize x / 2 ^ (k * (i / k)) = y
  rw [e2, Nat.mod_mul_right_div_self]
  obtain ⟨j, hj⟩ : ∃ j, k - i % k = j + 1 := ⟨k - i % k - 1, by omega⟩
  rw [hj, Nat.pow_succ]
  exact Nat.mod_mod_of_dvd _ ⟨2 ^ j, Nat.mul_comm _ _⟩
end
section
open Go
theorem W_pow (k : Nat) : W ^ k = 2 ^ (64 * k) := by rw [show W = 2 ^ 64 from rfl, ← Nat.pow_mul]
def lb (x : Nat) (i : Int) : Nat := if i < 0 then 0 else x / W ^ i.toNat % W
theorem lb_lt (x : Nat) (i : Int) : lb x i < W := by
  unfold lb
  split
  · exact W0
  · exact Nat.mod_lt _ W0
theorem lb_nat (x i : Nat) : lb x (i : Int) = x / W ^ i % W := by
  unfold lb
  rw [if_neg (by omega), Int.toNat_natCast]
theorem lb_neg (x : Nat) (i : Int) (h : i < 0) : lb x i = 0 := if_pos h
theorem limb_bit (x k j : Nat) : (x / W ^ k % W).testBit j = (decide (j < 64) && x.testBit (64 * k + j)) := by
  rw [W_pow, show W = 2 ^ 64 from rfl, Nat.testBit_mod_two_pow, Nat.testBit_div_two_pow, Nat.add_comm]
theorem shr_digit (x w p i : Nat) (hp : p < 64) : x / W ^ (i + w) % W / 2 ^ p ||| (x / W ^ (i + w + 1) % W * 2 ^ (64 - p) % W) = x / 2 ^ (64 * w + p) / W ^ i % W := by
  apply Nat.eq_of_testBit_eq
  intro j
  rw [limb_bit, Nat.testBit_or, Nat.testBit_div_two_pow, limb_bit, show W = 2 ^ 64 from rfl, Nat.testBit_mod_two_pow, Nat.mul_comm _ (2 ^ (64 - p)), Nat.testBit_two_pow_mul, ← show W = 2 ^ 64 from rfl, limb_bit, Nat.testBit_div_two_pow]
  by_cases h : j + p < 64
  · have h1 : ¬ (j ≥ 64 - p) := by omega
    have h2 : j < 64 := by omega
    simp only [h, h1, h2, decide_true, decide_false, Bool.true_and, Bool.false_and, Bool.and_false, Bool.or_false]
    congr 1; omega
  · by_cases h2 : j < 64
    · have h1 : j ≥ 64 - p := by omega
      have h3 : j - (64 - p) < 64 := by omega
      simp only [h, h1, h2, h3, decide_true, decide_false, Bool.true_and, Bool.false_and, Bool.false_or]
      congr 1; omega
    · simp only [h, h2, decide_false, Bool.false_and, Bool.or_false]
theorem shl_digit (x w p i : Nat) (hp : p < 64) : (lb x ((i : Int) - w) * 2 ^ p % W) ||| lb x ((i : Int) - w - 1) / 2 ^ (64 - p) = x * 2 ^ (64 * w + p) / W ^ i % W := by
  apply Nat.eq_of_testBit_eq
  intro j
  rw [limb_bit, Nat.testBit_or, Nat.testBit_div_two_pow, show W = 2 ^ 64 from rfl, Nat.testBit_mod_two_pow, Nat.mul_comm _ (2 ^ p), Nat.testBit_two_pow_mul, Nat.mul_comm x, Nat.testBit_two_pow_mul]
  by_cases hw : w ≤ i
  · obtain ⟨k, rfl⟩ : ∃ k, i = w + k := ⟨i - w, by omega⟩
    rw [show ((w + k : Nat) : Int) - w = (k : Int) by omega, lb_nat, limb_bit]
    by_cases hk : k = 0
    · subst hk
      rw [lb_neg _ _ (by omega), Nat.zero_testBit]
      by_cases h2 : j < 64
      · by_cases h1 : j ≥ p
        · have h3 : j - p < 64 := by omega
          have h4 : 64 * (w + 0) + j ≥ 64 * w + p := by omega
          simp only [h1, h2, h3, h4, decide_true, Bool.true_and, Bool.or_false]
          congr 1; omega
        · have h4 : ¬ (64 * (w + 0) + j ≥ 64 * w + p) := by omega
          simp only [h1, h2, h4, decide_true, decide_false, Bool.true_and, Bool.false_and, Bool.or_false]
      · simp only [h2, decide_false, Bool.false_and, Bool.or_false]
    · obtain ⟨k', rfl⟩ : ∃ k', k = k' + 1 := ⟨k - 1, by omega⟩
      rw [show ((k' + 1 : Nat) : Int) - 1 = (k' : Int) by omega, lb_nat, limb_bit]
      by_cases h2 : j < 64
      · by_cases h1 : j ≥ p
        · have h3 : j - p < 64 := by omega
          have h4 : 64 * (w + (k' + 1)) + j ≥ 64 * w + p := by omega
          have h5 : ¬ (j + (64 - p) < 64) := by omega
          simp only [h1, h2, h3, h4, h5, decide_true, decide_false, Bool.true_and, Bool.false_and, Bool.or_false]
          congr 1; omega
        · have h4 : 64 * (w + (k' + 1)) + j ≥ 64 * w + p := by omega
          have h5 : j + (64 - p) < 64 := by omega
          simp only [h1, h2, h4, h5, decide_true, decide_false, Bool.true_and, Bool.false_and, Bool.false_or]
          congr 1; omega
      · have h5 : ¬ (j + (64 - p) < 64) := by omega
        simp only [h2, h5, decide_false, Bool.false_and, Bool.or_false]
  · rw [lb_neg _ _ (by omega), lb_neg _ _ (by omega), Nat.zero_testBit, Nat.zero_testBit]
    by_cases h2 : j < 64
    · have h4 : ¬ (64 * i + j ≥ 64 * w + p) := by omega
      simp only [h4, decide_false, Bool.false_and, Bool.and_false, Bool.or_false]
    · simp only [h2, decide_false, Bool.false_and, Bool.and_false, Bool.or_false]
theorem bitLen_top {x m : Nat} (h : (dg W x).length = m + 1) : bitLen x = 64 * m + bitLen (x / W ^ m % W) := by
  have h1 : x < W ^ (m + 1) := (dg_length_le W2 (m + 1) x).1 (by omega)
  have h2 : ¬ x < W ^ m := fun h2 => by have := (dg_length_le W2 m x).2 h2; omega
  have h3 : x / W ^ m < W := by rw [Nat.div_lt_iff_lt_mul (Nat.pow_pos W0), Nat.mul_comm, ← Nat.pow_succ]; exact h1
  rw [Nat.mod_eq_of_lt h3]
  rw [W_pow] at h2 ⊢
  exact bitLen_div (by omega)
theorem bitLen_le_limbs (x : Nat) : bitLen x ≤ 64 * (dg W x).length := by
  rw [bitLen_le, ← W_pow]
  exact (dg_length_le W2 _ x).1 (Nat.le_refl _)
theorem odd_unique {a b m n : Nat} (h : 2 ^ a * (2 * m + 1) = 2 ^ b * (2 * n + 1)) : a = b := by
  rcases Nat.lt_trichotomy a b with hl | rfl | hl
  · exfalso
    obtain ⟨k, rfl⟩ : ∃ k, b = a + 1 + k := ⟨b - a - 1, by omega⟩
    rw [show 2 ^ (a + 1 + k) * (2 * n + 1) = 2 ^ a * (2 * (2 ^ k * (2 * n + 1))) by rw [Nat.pow_add, Nat.pow_succ]; simp only [Nat.mul_assoc, Nat.mul_comm, Nat.mul_left_comm]] at h
    have := Nat.eq_of_mul_eq_mul_left (Nat.two_pow_pos a) h
    omega
  · rfl
  · exfalso
    obtain ⟨k, rfl⟩ : ∃ k, a = b + 1 + k := ⟨a - b - 1, by omega⟩
    rw [show 2 ^ (b + 1 + k) * (2 * m + 1) = 2 ^ b * (2 * (2 ^ k * (2 * m + 1))) by rw [Nat.pow_add, Nat.pow_succ]; simp only [Nat.mul_assoc, Nat.mul_comm, Nat.mul_left_comm]] at h
    have := Nat.eq_of_mul_eq_mul_left (Nat.two_pow_pos b) h
    omega
def tz (x : Nat) : Nat := if x = 0 then 0 else Lib.ctzFrom x x
theorem tz_spec {x : Nat} (h : x ≠ 0) : ∃ m, x = 2 ^ tz x * (2 * m + 1) := by
  unfold tz
  rw [if_neg h]
  obtain ⟨m, hm, _⟩ := Lib.ctzFrom_spec x x (by omega) Nat.lt_two_pow_self
  exact ⟨m, hm⟩
theorem tz_of {x k m : Nat} (h : x = 2 ^ k * (2 * m + 1)) : tz x = k := by
  have h0 : x ≠ 0 := by
    have := Nat.mul_pos (Nat.two_pow_pos k) (show 0 < 2 * m + 1 by omega)
    omega
  obtain ⟨n, hn⟩ := tz_spec h0
  exact odd_unique (hn.symm.trans h)
theorem tz_lt {x n : Nat} (h : x ≠ 0) : tz x < n ↔ x % 2 ^ n ≠ 0 := by
  obtain ⟨m, hm⟩ := tz_spec h
  generalize tz x = t at hm ⊢
  constructor
  · intro hl h0
    obtain ⟨k, rfl⟩ : ∃ k, n = t + 1 + k := ⟨n - t - 1, by omega⟩
    obtain ⟨c, hc⟩ := Nat.dvd_of_mod_eq_zero h0
    rw [hc, show 2 ^ (t + 1 + k) * c = 2 ^ t * (2 * (2 ^ k * c)) by rw [Nat.pow_add, Nat.pow_succ]; simp only [Nat.mul_assoc, Nat.mul_comm, Nat.mul_left_comm]] at hm
    have := Nat.eq_of_mul_eq_mul_left (Nat.two_pow_pos t) hm
    omega
  · intro h1
    rcases Nat.lt_or_ge t n with h2 | h2
    · exact h2
    · exfalso
      apply h1
      obtain ⟨k, rfl⟩ : ∃ k, t = n + k := ⟨t - n, by omega⟩
      rw [hm, Nat.pow_add, Nat.mul_assoc]
      exact Nat.mul_mod_right _ _
theorem tz_limb {x i : Nat} (h0 : x % W ^ i = 0) (hd : x / W ^ i % W ≠ 0) : tz x = 64 * i + Lib.ctz 64 (x / W ^ i % W) := by
  have hlt : x / W ^ i % W < 2 ^ 64 := Nat.mod_lt _ W0
  have e1 := Nat.mod_add_div x (W ^ i)
  have e2 := Nat.mod_add_div (x / W ^ i) W
  generalize x / W ^ i % W = d at *
  generalize x / W ^ i / W = r at *
  obtain ⟨m, hm, hk⟩ := Lib.ctzFrom_spec 64 d (by omega) hlt
  have ec : Lib.ctz 64 d = Lib.ctzFrom 64 d := by simp [Lib.ctz, hd]
  rw [ec]
  generalize Lib.ctzFrom 64 d = c at *
  obtain ⟨q, hq⟩ : ∃ q, 64 = c + 1 + q := ⟨64 - c - 1, by omega⟩
  refine tz_of (m := m + 2 ^ q * r) ?_
  rw [← e1, h0, Nat.zero_add, ← e2, hm, W_pow, show W = 2 ^ c * (2 * 2 ^ q) by rw [show W = 2 ^ (c + 1 + q) by rw [← hq], Nat.pow_add, Nat.pow_succ, Nat.mul_assoc], Nat.pow_add]
  rw [show 2 ^ c * (2 * m + 1) + 2 ^ c * (2 * 2 ^ q) * r = 2 ^ c * (2 * (m + 2 ^ q * r) + 1) by
    rw [Nat.mul_assoc (2 ^ c), ← Nat.mul_add]
    congr 1
    rw [Nat.mul_assoc 2]
    omega]
  rw [Nat.mul_assoc]
end
end PG
namespace Go.Proofs.YtfkgaldbcngliaaGreatDoor
attribute [local go_sem] Lay2 Lay3 Lay4 Lay5 Lay6 Lay7 Lay8 Lay9 Lay10 Lay11 Lay12 Lay13 Lay14 Lay15 Lay16 Lay17 Lay18 Lay19 Lay20 Lay21 Lay22 Lay26 Lay27 Lay28 Lay29 Lay31 Lay32 Lay33 Lay34 Lay35 Lay41 Lay42 Lay43 Lay47 Lay48 Lay60 Lay61 Lay62 Lay63 Lay64 Lay72 Lay73 Lay74 Lay83 Lay84 Lay86 Lay90 Lay91 Lay92 Lay93 Lay102 Lay103 Lay139 Lay143 Lay149 Lay158 Lay159 Lay160 Lay161 Lay162 Lay174 Lay175 Lay193 Lay207 Lay208 Lay209 Lay210 Lay228 Lay229 Lay237 Lay238 Lay265 Lay287 Lay295 Lay296 Lay297 Lay299 Lay301 Lay302 Lay303 Lay304 Lay305 Lay307 Lay308 Lay310 Lay311 Lay312 Lay315 Lay316 Lay317 qexec_seq qexec_skip qexec_exit qexec_ret qexec_block qexec_loop qexec_range qexec_cond qexec_region qexec_drawn qops_nil qops_none qops_some put_some put_none pblk_exit pblk_other newDsts_nil inlDsts_nil isInl sget_cons sget_nil qval_some qbool_some qgs_bool qgs_und qfree_some qgrd_true qgrd_false qif_true qif_false qval_ite qval_itn qand_true map_ite map_some' map_none' qdo_move qdo_assign qdo_binOp qdo_pick qdo_unOp qdo_convert qdo_extract qdo_makeInterface qdo_field qdo_fieldAddr qdo_alloc qdo_box qdo_build qdo_buildSlice qdo_load qdo_store qdo_nilCheck qdo_makeFunc qdo_makeSlice qdo_slice qdo_indexAddr qdo_call qcont_val qcont_new qcont_st qcont_app0 qcont_app qcont_inl qcont_call njSV_val njSV_nil njSV_row njSV_ptr njSV_sub binV_val binV_nil binV_nn binV_ptr bin_np bin_nnp nilCmp bin_add bin_sub bin_mul bin_quo bin_rem bin_and bin_or bin_xor bin_andNot bin_eql bin_neq bin_lss bin_leq bin_gtr bin_geq bin_shl bin_shr bin_seql bin_sneq bin_sadd bin_beql bin_aeql bin_aneq eqAnd_some eqCells_nil eqCells_cons fieldTypes isStruct eqCell bin_bneq un_not un_neg nj_ite Nat.beq stepA stepR isNew opSV constSV RV.sv allSome E_mu E_own qkeyIn_none qkeyIn_some qkeyAt_none qkeyAt_some Bool.or_false Bool.false_or Bool.or_true Bool.true_or cst setB res resSV pstart startL killL kill1 eraL frzL svPV rvPV rvInt rvSlice rvBytes frzOf close closeL pconv pbuiltin pmax2 partPV setCells fillPV zrow bound newSV PV.cells Bk.cells Bk.with SV.key pres presL_nil presL_tmp presL_cell presC2_some cellPV_ptr presC List.toList_toArray List.size_toArray List.getElem?_drop Nat.mul_one Int.toNat_natCast Nat.not_lt_zero Nat.lt_irrefl decide_true decide_false Nat.not_lt Option.some.injEq PV.lst.injEq PV.int.injEq PV.bool.injEq PV.tuple.injEq List.cons.injEq Option.map_some Option.map_none Option.bind_some Option.toList List.map_cons List.map_nil List.nil_append List.cons_append List.append_nil List.zip_cons_cons List.zip_nil_left List.zip_nil_right List.getElem?_cons_zero List.getElem?_cons_succ List.drop_zero List.drop_succ_cons List.take_succ_cons List.take_zero List.set_cons_zero List.set_cons_succ List.length_cons List.length_nil List.length_set List.replicate_one List.replicate_zero bne_self_eq_false beq_self_eq_true Nat.zero_add Nat.add_zero Nat.zero_mul Bool.false_eq_true Bool.true_eq_false Bool.not_true Bool.not_false and_true true_and false_and and_false or_false false_or or_true true_or not_true_eq_false not_false_eq_true ne_eq gt_iff_lt List.mem_cons List.not_mem_nil
attribute [local go_sem ↓] pseq_normal pseq_ret pseq_exit pblk_normal pblk_ret newDsts_cons inlDsts_cons gdst_zero gdst_succ retQ_normal retQ_ret qneed_nil qneed_cons retM_normal retM_ret endR_normal endR_ret endR_exit
attribute [local go_sem] Int.reduceToNat Int.reduceEq Int.reduceNe Int.reduceLT Int.reduceLE Int.reduceNeg Int.reduceAdd Nat.reduceEqDiff Nat.reduceAdd Nat.reduceSub Nat.reduceMul Nat.reduceLeDiff Nat.reduceLT
attribute [local go_sem ↓] reduceIte reduceCtorEq
def u (d : Nat) : PV := .int .u64 d
def U (l : List Nat) : List PV := l.map u
def NL (l : List Nat) : PV := .lst l.length (U l)
theorem U_length (l : List Nat) : (U l).length = l.length := by simp [U]
theorem U_get (l : List Nat) (i : Nat) : (U l)[i]? = (l[i]?).map u := by simp [U]
theorem U_take (l : List Nat) (i : Nat) : (U l).take i = U (l.take i) := by simp [U, List.map_take]
theorem U_append (l r : List Nat) : U l ++ U r = U (l ++ r) := by simp [U]
def limbAt (l : List Nat) (i : Int) : Nat := if i < 0 then 0 else l.getD i.toNat 0
theorem c_limb (l : List Nat) (i : Int) : PC E 121 [NL l, .int .i64 i] (u (limbAt l i)) := by
  refine PC.of_body follows Tryz.func121 (by decide +kernel) rfl (by kernel_rfl) (Nat.le_of_ble_eq_true rfl) (walk ?_)
  simp only [NL]
  simp only [Tryz.f121, go_sem]
  refine qif_d (fun h => ?_) (fun h => ?_)
  · simp only [Tryz.f121, go_sem]
    simp [limbAt, h, u]
  · simp only [Tryz.f121, go_sem]
    refine qif_d (fun h' => ?_) (fun h' => ?_)
    · simp only [Tryz.f121, go_sem]
      have : l[i.toNat]? = none := List.getElem?_eq_none (by omega)
      simp [limbAt, h, u, List.getD_eq_getElem?_getD, this]
    · simp only [Tryz.f121, go_sem]
      have hx : (U l)[i.toNat]? = some (u (l.getD i.toNat 0)) := by
        rw [U_get, List.getD_eq_getElem?_getD, List.getElem?_eq_getElem (show i.toNat < l.length by omega)]; rfl
      refine qand_i (by omega) ?_
      simp only [Tryz.f121, hx, go_sem]
      simp [limbAt, h]
theorem c_Clone (n : Nat) (cs : List PV) (hl : cs.length = n) (hn : n ≤ 17592186044416) : PC E 192 [.lst n cs] (.lst n cs) := by
  refine PC.of_slice follows Tryz.func192 (by decide +kernel) rfl (by kernel_rfl) (Nat.le_of_ble_eq_true rfl) (fun h0 hc => walk ?_) (walk ?_)
  · subst h0; subst hc
    simp only [Tryz.f192, go_sem]
  · simp only [Tryz.f192, hl, go_sem]
    refine qand_i (by simp only [maxLen]; omega) ?_
    simp only [Tryz.f192, hl, go_sem]
theorem c_Bare (l : List Nat) (hl : l.length ≤ 17592186044416) : PC E 119 [NL l] (NL (strip l)) := by
  refine PC.of_body follows Tryz.func119 (by decide +kernel) rfl (by kernel_rfl) (Nat.le_of_ble_eq_true rfl) (walk ?_)
  simp only [NL]
  simp only [Tryz.f119, go_sem]
  refine PLoop.intro (fun k : Nat => ⟨[(0, .val (NL l)), (3, .val (.int .i64 k))], []⟩) (fun k => k ≤ l.length ∧ strip l = strip (l.take k)) id l.length (by simp) (by simp [Wk, sget, NL]) fun k hk => walk ?_
  obtain ⟨hk, hs⟩ := hk
  simp only [NL]
  simp only [Tryz.f119, go_sem]
  refine qif_d (fun h => ?_) (fun h => ?_)
  · have hw : IntKind.wrap .i64 ((k : Int) - 1) = ((k - 1 : Nat) : Int) := by rw [wrap64 (by omega) (by omega)]; omega
    have hx : (U l)[k - 1]? = some (u (l[k - 1]'(by omega))) := by
      rw [U_get, List.getElem?_eq_getElem (show k - 1 < l.length by omega)]; rfl
    simp only [Tryz.f119, hw, go_sem]
    refine qand_i (by omega) ?_
    simp only [Tryz.f119, hx, u, go_sem]
    refine qif_d (fun h0 => ?_) (fun h0 => ?_)
    · simp only [Tryz.f119, hw, go_sem]
      refine ⟨k - 1, ⟨by omega, ?_⟩, by simp only [id]; omega, by simp [Wk, sget, NL]⟩
      rw [hs]
      obtain ⟨j, rfl⟩ : ∃ j, k = j + 1 := ⟨k - 1, by omega⟩
      rw [List.take_succ_eq_append_getElem (by omega), Nat.add_sub_cancel, show l[j] = 0 by simpa using h0, strip_snoc0]
    · simp only [Tryz.f119, hw, go_sem]
      refine qand_i (by simp [U]; omega) ?_
      simp only [Tryz.f119, U_take, go_sem]
      refine qcall_i (c_Clone _ _ (by simp [U]; omega) (by omega)) ?_
      simp only [Tryz.f119, go_sem]
      have e : strip l = l.take k := by
        rw [hs]
        obtain ⟨j, rfl⟩ : ∃ j, k = j + 1 := ⟨k - 1, by omega⟩
        rw [List.take_succ_eq_append_getElem (by omega), strip_snoc]
        intro h1
        apply h0
        simpa using h1
      rw [e]
      simp only [NL, List.length_take, Nat.min_eq_left hk, Int.toNat_natCast, Nat.sub_zero, Nat.mul_one, Int.toNat_zero, List.drop_zero, U_take]
  · simp only [Tryz.f119, go_sem]
    refine qand_i (by simp [U]; omega) ?_
    have hk0 : k = 0 := by omega
    subst hk0
    simp only [Tryz.f119, U_take, go_sem]
    refine qcall_i (c_Clone _ _ (by simp [U]) (by omega)) ?_
    simp only [Tryz.f119, go_sem]
    simp [hs, strip, U, NL]
def NN (x : Nat) : PV := NL (dg W x)
abbrev vl (l : List Nat) : Nat := dv W l
theorem PC.cast {f : FuncId} {args : List PV} {r r' : PV} (h : PC E f args r) (e : r = r') : PC E f args r' := e ▸ h
theorem n_Bare (l : List Nat) (hl : l.length ≤ 17592186044416) (ho : Ok W l) : PC E 119 [NL l] (NN (vl l)) :=
  PC.cast (c_Bare l hl) (by rw [strip_eq W2 l ho]; rfl)
theorem lb_eq (l : List Nat) (ho : Ok W l) (i : Int) : limbAt l i = lb (vl l) i := by
  unfold limbAt lb
  split
  · rfl
  · exact dv_get W0 l ho _
theorem n_limb (l : List Nat) (ho : Ok W l) (i : Int) : PC E 121 [NL l, .int .i64 i] (u (lb (vl l) i)) :=
  PC.cast (c_limb l i) (by rw [lb_eq l ho])
theorem three_args {g : Addr → Option Value} {a b c : Nat} {vs : Array Value} (hs : vs.size = 3) (h : ∀ (j : Nat) p x, [u a, u b, u c][j]? = some p → vs[j]? = some x → Rep g p x) :
    vs = #[.int .u64 a, .int .u64 b, .int .u64 c] := by
  have h0 := (h 0 _ _ rfl (Array.getElem?_eq_getElem (by omega)) : Rep g (u a) vs[0]).int_inv
  have h1 := (h 1 _ _ rfl (Array.getElem?_eq_getElem (by omega)) : Rep g (u b) vs[1]).int_inv
  have h2 := (h 2 _ _ rfl (Array.getElem?_eq_getElem (by omega)) : Rep g (u c) vs[2]).int_inv
  refine Array.ext (by simp [hs]) fun i hi hj => ?_
  have : i = 0 ∨ i = 1 ∨ i = 2 := by omega
  rcases this with rfl | rfl | rfl <;> simp [h0, h1, h2]
theorem c_Add64 (a b c : Nat) (hc : c ≤ 1) : PC E 227 [u a, u b, u c] (.tuple [u ((a + b + c) % W), u ((a + b + c) / W)]) := by
  refine PC.of_value (xs := #[.int .u64 a, .int .u64 b, .int .u64 c]) (v := .tuple #[.int .u64 (((a + b + c) % W : Nat) : Int), .int .u64 (((a + b + c) / W : Nat) : Int)]) (fun g vs hs h => three_args hs h) (fun w => ?_)
    (fun g => Rep.tuple _ _ rfl fun j p x hp hx => ?_)
  · rw [run_callFunc_extern (P := E.P) Tryz.func227 (by kernel_rfl) (by kernel_rfl) (by kernel_rfl) (e := add64Entry) (by kernel_rfl), run_add64 a b c (by omega) (by omega) (by omega) (by omega)]
    simp only [Result.andThen, W]
    congr 5 <;> omega
  · match j with
    | 0 => cases hp; cases hx; exact .int _ _
    | 1 => cases hp; cases hx; exact .int _ _
    | j + 2 => simp at hp
theorem c_Sub64 (a b c : Nat) (hc : c ≤ 1) : PC E 228 [u a, u b, u c] (.tuple [u ((a + W - b - c) % W), u (if a < b + c then 1 else 0)]) := by
  refine PC.of_value (xs := #[.int .u64 a, .int .u64 b, .int .u64 c]) (v := .tuple #[.int .u64 (((a + W - b - c) % W : Nat) : Int), .int .u64 ((if a < b + c then 1 else 0 : Nat) : Int)]) (fun g vs hs h => three_args hs h) (fun w => ?_)
    (fun g => Rep.tuple _ _ rfl fun j p x hp hx => ?_)
  · rw [run_callFunc_extern (P := E.P) Tryz.func228 (by kernel_rfl) (by kernel_rfl) (by kernel_rfl) (e := sub64Entry) (by kernel_rfl), run_sub64 a b c hc]
    rfl
  · match j with
    | 0 => cases hp; cases hx; exact .int _ _
    | 1 => cases hp; cases hx; exact .int _ _
    | j + 2 => simp at hp
theorem U_set (l : List Nat) (i d : Nat) : (U l).set i (u d) = U (l.set i d) := by simp [U, List.map_set]
theorem PC.at_list {f : FuncId} {l : List Nat} {n x y : Nat} (h : PC E f [NL l] (NN x)) (hn : l.length = n) (e : x = y) : PC E f [.lst n (U l)] (NN y) := by
  subst hn; subst e; exact h
theorem c_Of (n : Nat) (hn : n < W) : PC E 180 [u n] (NN n) := by
  refine PC.of_body follows Tryz.func180 (by decide +kernel) rfl (by kernel_rfl) (Nat.le_of_ble_eq_true rfl) (walk ?_)
  simp only [Tryz.f180, u, List.replicate_succ, List.replicate_zero, go_sem]
  refine qcall_i (n_Bare [n] (by simp) (Ok.cons hn Ok.nil)) ?_
  simp only [Tryz.f180, go_sem]
  simp [dv]
theorem c_Small (l : List Nat) (hl : l.length ≤ 17592186044416) (ho : Ok W l) : PC E 64 [NL l] (.tuple [u (if vl l < W then vl l else 0), .bool (decide (vl l < W))]) := by
  refine PC.of_body follows Tryz.func64 (by decide +kernel) rfl (by kernel_rfl) (Nat.le_of_ble_eq_true rfl) (walk ?_)
  simp only [Tryz.f64, go_sem]
  refine qcall_i (n_Bare l hl ho) ?_
  simp only [NN, NL]
  simp only [Tryz.f64, go_sem]
  have h1 := dg_length_le W2 1 (vl l)
  rw [Nat.pow_one] at h1
  refine qif_d (fun h => ?_) (fun h => ?_)
  · have h0 : vl l = 0 := by
      have := (dg_length_le W2 0 (vl l)).1 (by omega)
      rw [Nat.pow_zero] at this
      omega
    simp only [Tryz.f64, go_sem]
    simp [h0, u]
  · simp only [Tryz.f64, go_sem]
    refine qif_d (fun h' => ?_) (fun h' => ?_)
    · have hlt : vl l < W := h1.1 (by omega)
      have h0 : vl l ≠ 0 := fun h0 => h (by rw [h0]; rfl)
      have hx : (U (dg W (vl l)))[0]? = some (u (vl l)) := by
        rw [dg_pos W2 h0, Nat.mod_eq_of_lt hlt]; rfl
      simp only [Tryz.f64, hx, go_sem]
      refine qand_i (by omega) ?_
      simp only [Tryz.f64, go_sem]
      refine qval_i (congrArg (Option.map _) hx) ?_
      simp only [Tryz.f64, go_sem]
      simp [hlt]
    · have hlt : ¬ vl l < W := fun h2 => by have := h1.2 h2; omega
      simp only [Tryz.f64, go_sem]
      simp [hlt, u]
theorem c_Add (a b : List Nat) (ha : a.length ≤ 1048576) (hb : b.length ≤ 1048576) (oa : Ok W a) (ob : Ok W b) : PC E 187 [NL a, NL b] (NN (vl a + vl b)) := by
  refine PC.of_body follows Tryz.func187 (by decide +kernel) rfl (by kernel_rfl) (Nat.le_of_ble_eq_true rfl) (walk ?_)
  have hw : IntKind.wrap .i64 (max (a.length : Int) (b.length : Int) + 1) = ((max a.length b.length + 1 : Nat) : Int) := by rw [wrap64 (by omega) (by omega)]; omega
  have hA := dv_lt a oa
  have hB := dv_lt b ob
  have hA' : vl a < W ^ max a.length b.length := Nat.lt_of_lt_of_le hA (Nat.pow_le_pow_right W0 (by omega))
  have hB' : vl b < W ^ max a.length b.length := Nat.lt_of_lt_of_le hB (Nat.pow_le_pow_right W0 (by omega))
  have hAB : vl a + vl b < W ^ (max a.length b.length + 1) := by
    rw [Nat.pow_succ]
    have : W ^ max a.length b.length * 2 ≤ W ^ max a.length b.length * W := Nat.mul_le_mul_left _ (by decide)
    omega
  simp only [NL]
  simp only [Tryz.f187, hw, go_sem]
  generalize hn : max a.length b.length + 1 = n at *
  generalize hA0 : vl a = A at *
  generalize hB0 : vl b = B at *
  refine qand_i (by omega) ?_
  simp only [Tryz.f187, hw, go_sem]
  refine PLoop.intro (fun i : Nat => ⟨[(0, .val (NL a)), (1, .val (NL b)), (5, .row 14), (6, .val (u (carry A B (W ^ i)))), (16, .val (.int .i64 n)), (17, .val (.int .i64 i))],
    [(14, (.row 22 1 n (U (tab W (A + B) i ++ List.replicate (n - i) 0)), false))]⟩) (fun i => i ≤ n) (fun i => n - i) 0 (by omega) ?_ fun i hi => walk ?_
  · simp [Wk, sget, NL, carry_one, u, U, tab]
  simp only [Tryz.f187, go_sem]
  refine qif_d (fun h => ?_) (fun h => ?_)
  · have hMi : 0 < W ^ i := Nat.pow_pos W0
    have hwi : IntKind.wrap .i64 ((i : Int) + 1) = ((i + 1 : Nat) : Int) := by rw [wrap64 (by omega) (by omega)]; omega
    simp only [Tryz.f187, go_sem]
    refine qcall_i (n_limb a oa i) ?_
    simp only [Tryz.f187, go_sem]
    refine qcall_i (n_limb b ob i) ?_
    simp only [Tryz.f187, go_sem]
    rw [hA0, hB0, lb_nat, lb_nat]
    refine qcall_i (c_Add64 _ _ _ (carry_le hMi)) ?_
    simp only [Tryz.f187, go_sem]
    refine qand_i (by omega) ?_
    simp only [Tryz.f187, u, go_sem]
    refine qand_i (by simp [U, tab]; omega) ?_
    simp only [Tryz.f187, hwi, go_sem]
    refine ⟨i + 1, by omega, by omega, ?_⟩
    rw [carry_digit hMi, carry_next hMi, ← Nat.pow_succ]
    simp [Wk, sget, u, NL]
    rw [← fill_set (by omega), ← U_set]
    rfl
  · have e : i = n := by omega
    subst e
    simp only [Tryz.f187, go_sem]
    rw [Nat.sub_self, List.replicate_zero, List.append_nil]
    refine qcall_i (r := NN (A + B)) (PC.at_list (n_Bare (tab W (A + B) i) (by rw [tab_length]; omega) (ok_tab W0 _ _)) (tab_length _ _ _) ((dv_tab _ _).trans (Nat.mod_eq_of_lt hAB))) ?_
    simp only [Tryz.f187, go_sem]
theorem c_Len64 (x : Nat) (hx : x < W) : PC E 120 [u x] (.int .i64 (bitLen x)) := by
  refine PC.of_body follows Tryz.func120 (by decide +kernel) rfl (by kernel_rfl) (Nat.le_of_ble_eq_true rfl) (walk ?_)
  have d8 : ∀ a : Nat, ((a : Int) ≥ 256 ↔ 2 ^ 8 ≤ a) := fun a => by omega
  have d16 : ∀ a : Nat, ((a : Int) ≥ 65536 ↔ 2 ^ 16 ≤ a) := fun a => by omega
  have d32 : ∀ a : Nat, ((a : Int) ≥ 4294967296 ↔ 2 ^ 32 ≤ a) := fun a => by omega
  have lt : ∀ a k : Nat, a < W → a / 2 ^ k < W := fun a k h => Nat.lt_of_le_of_lt (Nat.div_le_self _ _) h
  have a1 := b_shr hx 32
  have a2 := b_shr hx 16
  have a3 := b_shr (lt _ 32 hx) 16
  have a4 := b_shr hx 8
  have a5 := b_shr (lt _ 32 hx) 8
  have a6 := b_shr (lt _ 16 hx) 8
  have a7 := b_shr (lt _ 16 (lt _ 32 hx)) 8
  have fin : ∀ (a : Nat) (c : Int), (a < 256) → 0 ≤ c → c ≤ 56 → (bitLen x : Int) = c + bitLen a → ∀ b : Int, b = bitLen a → IntKind.wrap .i64 (c + IntKind.wrap .i64 b) = bitLen x := by
    intro a c ha hc hc' he b hb
    have := (bitLen_le a 8).2 ha
    subst hb
    have e1 := wrap64 (i := (bitLen a : Int)) (by omega) (by omega)
    rw [e1, wrap64 (by omega) (by omega)]
    omega
  have hxb : (bitLen x : Int) = 0 + bitLen x := by omega
  simp only [Tryz.f120, u, go_sem]
  have big : x < 2 ^ 64 := hx
  refine qif_d (fun h1 => ?_) (fun h1 => ?_)
  all_goals rw [d32] at h1
  · simp only [Tryz.f120, u, a1, go_sem]
    refine qif_d (fun h2 => ?_) (fun h2 => ?_)
    all_goals rw [d16] at h2
    · simp only [Tryz.f120, u, a2, a3, wrap64, go_sem]
      refine qif_d (fun h3 => ?_) (fun h3 => ?_)
      all_goals rw [d8] at h3
      · simp only [Tryz.f120, u, a4, a5, a6, a7, wrap64, go_sem]
        have hlt : x / 2 ^ 32 / 2 ^ 16 / 2 ^ 8 < 256 := by omega
        have e8 := wrap8 hlt
        refine qdo_indexS (by simp only [Lay9]) rfl rfl ?_
        refine qval_i (idx_tab bitLen 256 (by kernel_rfl) ?_ ?_) ?_
        · rw [e8]; omega
        · rw [e8, Int.toNat_natCast]; exact hlt
        simp only [Tryz.f120, u, e8, go_sem]
        exact fin _ _ hlt (by decide) (by decide) (by rw [bitLen_div h1, bitLen_div h2, bitLen_div h3]; omega) _ rfl
      · simp only [Tryz.f120, u, a4, a5, a6, a7, wrap64, go_sem]
        have hlt : x / 2 ^ 32 / 2 ^ 16 < 256 := by omega
        have e8 := wrap8 hlt
        refine qdo_indexS (by simp only [Lay9]) rfl rfl ?_
        refine qval_i (idx_tab bitLen 256 (by kernel_rfl) ?_ ?_) ?_
        · rw [e8]; omega
        · rw [e8, Int.toNat_natCast]; exact hlt
        simp only [Tryz.f120, u, e8, go_sem]
        exact fin _ _ hlt (by decide) (by decide) (by rw [bitLen_div h1, bitLen_div h2]; omega) _ rfl
    · simp only [Tryz.f120, u, a2, a3, wrap64, go_sem]
      refine qif_d (fun h3 => ?_) (fun h3 => ?_)
      all_goals rw [d8] at h3
      · simp only [Tryz.f120, u, a4, a5, a6, a7, wrap64, go_sem]
        have hlt : x / 2 ^ 32 / 2 ^ 8 < 256 := by omega
        have e8 := wrap8 hlt
        refine qdo_indexS (by simp only [Lay9]) rfl rfl ?_
        refine qval_i (idx_tab bitLen 256 (by kernel_rfl) ?_ ?_) ?_
        · rw [e8]; omega
        · rw [e8, Int.toNat_natCast]; exact hlt
        simp only [Tryz.f120, u, e8, go_sem]
        exact fin _ _ hlt (by decide) (by decide) (by rw [bitLen_div h1, bitLen_div h3]; omega) _ rfl
      · simp only [Tryz.f120, u, a4, a5, a6, a7, wrap64, go_sem]
        have hlt : x / 2 ^ 32 < 256 := by omega
        have e8 := wrap8 hlt
        refine qdo_indexS (by simp only [Lay9]) rfl rfl ?_
        refine qval_i (idx_tab bitLen 256 (by kernel_rfl) ?_ ?_) ?_
        · rw [e8]; omega
        · rw [e8, Int.toNat_natCast]; exact hlt
        simp only [Tryz.f120, u, e8, go_sem]
        exact fin _ _ hlt (by decide) (by decide) (by rw [bitLen_div h1]; omega) _ rfl
  · simp only [Tryz.f120, u, a1, go_sem]
    refine qif_d (fun h2 => ?_) (fun h2 => ?_)
    all_goals rw [d16] at h2
    · simp only [Tryz.f120, u, a2, a3, wrap64, go_sem]
      refine qif_d (fun h3 => ?_) (fun h3 => ?_)
      all_goals rw [d8] at h3
      · simp only [Tryz.f120, u, a4, a5, a6, a7, wrap64, go_sem]
        have hlt : x / 2 ^ 16 / 2 ^ 8 < 256 := by omega
        have e8 := wrap8 hlt
        refine qdo_indexS (by simp only [Lay9]) rfl rfl ?_
        refine qval_i (idx_tab bitLen 256 (by kernel_rfl) ?_ ?_) ?_
        · rw [e8]; omega
        · rw [e8, Int.toNat_natCast]; exact hlt
        simp only [Tryz.f120, u, e8, go_sem]
        exact fin _ _ hlt (by decide) (by decide) (by rw [bitLen_div h2, bitLen_div h3]; omega) _ rfl
      · simp only [Tryz.f120, u, a4, a5, a6, a7, wrap64, go_sem]
        have hlt : x / 2 ^ 16 < 256 := by omega
        have e8 := wrap8 hlt
        refine qdo_indexS (by simp only [Lay9]) rfl rfl ?_
        refine qval_i (idx_tab bitLen 256 (by kernel_rfl) ?_ ?_) ?_
        · rw [e8]; omega
        · rw [e8, Int.toNat_natCast]; exact hlt
        simp only [Tryz.f120, u, e8, go_sem]
        exact fin _ _ hlt (by decide) (by decide) (by rw [bitLen_div h2]; omega) _ rfl
    · simp only [Tryz.f120, u, a2, a3, wrap64, go_sem]
      refine qif_d (fun h3 => ?_) (fun h3 => ?_)
      all_goals rw [d8] at h3
      · simp only [Tryz.f120, u, a4, a5, a6, a7, wrap64, go_sem]
        have hlt : x / 2 ^ 8 < 256 := by omega
        have e8 := wrap8 hlt
        refine qdo_indexS (by simp only [Lay9]) rfl rfl ?_
        refine qval_i (idx_tab bitLen 256 (by kernel_rfl) ?_ ?_) ?_
        · rw [e8]; omega
        · rw [e8, Int.toNat_natCast]; exact hlt
        simp only [Tryz.f120, u, e8, go_sem]
        exact fin _ _ hlt (by decide) (by decide) (by rw [bitLen_div h3]; omega) _ rfl
      · simp only [Tryz.f120, u, a4, a5, a6, a7, wrap64, go_sem]
        have hlt : x < 256 := by omega
        have e8 := wrap8 hlt
        refine qdo_indexS (by simp only [Lay9]) rfl rfl ?_
        refine qval_i (idx_tab bitLen 256 (by kernel_rfl) ?_ ?_) ?_
        · rw [e8]; omega
        · rw [e8, Int.toNat_natCast]; exact hlt
        simp only [Tryz.f120, u, e8, go_sem]
        exact fin _ _ hlt (by decide) (by decide) hxb _ rfl
theorem tz_core (x a b c j k : Nat) (h0 : x ≠ 0) (hk : k < 64) (e1 : IntKind.wrap .u64 (0 - (x : Int)) = (c : Int)) (e2 : bits .and .u64 (x : Int) (c : Int) = (a : Int)) (e3 : IntKind.wrap .u64 ((a : Int) * 285870213051353865) = (b : Int))
    (e4 : (b : Int).fdiv (2 ^ min 58 64) = (j : Int)) (hi : j < 64) (hd : deBruijn[j]? = some (.int .u8 (k : Int))) : PC E 215 [u x] (.int .i64 k) := by
  refine PC.of_body follows Tryz.func215 (by decide +kernel) rfl (by kernel_rfl) (Nat.le_of_ble_eq_true rfl) (walk ?_)
  have hG : E.G 0 = some deBruijn := rfl
  generalize deBruijn = D at hG hd
  simp only [Tryz.f215, u, go_sem]
  refine qif_df (by omega) ?_
  simp only [Tryz.f215, e1, e2, e3, e4, hG, go_sem]
  refine qand_i (by omega) ?_
  simp only [Tryz.f215, e1, e2, e3, e4, hG, go_sem]
  refine qval_i (congrArg (Option.map _) hd) ?_
  simp only [Tryz.f215, go_sem]
  exact wrap64 (by omega) (by omega)
theorem c_TrailingZeros64 (x : Nat) (hx : x < W) : PC E 215 [u x] (.int .i64 (Lib.ctz 64 x)) := by
  by_cases h0 : x = 0
  · subst h0
    refine PC.of_body follows Tryz.func215 (by decide +kernel) rfl (by kernel_rfl) (Nat.le_of_ble_eq_true rfl) (walk ?_)
    simp only [Tryz.f215, u, go_sem]
    refine qif_dt rfl ?_
    simp only [Tryz.f215, go_sem]
    rfl
  · obtain ⟨hlow, hk⟩ := Lib.lowest_bit 64 x h0 hx
    obtain ⟨hi, htab⟩ := Lib.deBruijn64_at _ hk
    have hx' : x < 18446744073709551616 := hx
    have e1 : IntKind.wrap .u64 (0 - (x : Int)) = ((18446744073709551616 - x : Nat) : Int) := by
      rw [IntKind.wrap_u64]; omega
    have e2 := b_and (a := x) (b := 18446744073709551616 - x) hx (by show 18446744073709551616 - x < 18446744073709551616; omega)
    rw [show (2 : Nat) ^ 64 = 18446744073709551616 from by decide] at hlow
    rw [hlow] at e2
    have e3 : IntKind.wrap .u64 (((2 ^ Lib.ctz 64 x : Nat) : Int) * 285870213051353865) = ((2 ^ Lib.ctz 64 x * 285870213051353865 % 18446744073709551616 : Nat) : Int) := by
      rw [IntKind.wrap_u64]; omega
    have e4 := b_shr (a := 2 ^ Lib.ctz 64 x * 285870213051353865 % 18446744073709551616) (Nat.mod_lt _ (by decide)) 58
    rw [show (2 : Nat) ^ 58 = 288230376151711744 from by decide] at e4
    refine tz_core x _ _ _ _ _ h0 hk e1 e2 e3 e4 hi ?_
    unfold deBruijn
    rw [List.getElem?_map, List.getElem?_eq_getElem (show _ < Lib.deBruijn64tab.length from hi)]
    rw [List.getD_eq_getElem?_getD, List.getElem?_eq_getElem (show _ < Lib.deBruijn64tab.length from hi), Option.getD_some] at htab
    rw [Option.map_some, htab]
theorem c_Bits (l : List Nat) (hl : l.length ≤ 1048576) (ho : Ok W l) : PC E 61 [NL l] (.int .i64 (bitLen (vl l))) := by
  refine PC.of_body follows Tryz.func61 (by decide +kernel) rfl (by kernel_rfl) (Nat.le_of_ble_eq_true rfl) (walk ?_)
  simp only [Tryz.f61, go_sem]
  refine qcall_i (n_Bare l (by omega) ho) ?_
  have hlen : (dg W (vl l)).length ≤ l.length := (dg_length_le W2 _ _).2 (dv_lt l ho)
  simp only [NN, NL]
  simp only [Tryz.f61, go_sem]
  generalize vl l = x at *
  refine qif_d (fun h => ?_) (fun h => ?_)
  · have h0 : x = 0 := by
      have := (dg_length_le W2 0 x).1 (by omega)
      rw [Nat.pow_zero] at this
      omega
    simp only [Tryz.f61, go_sem]
    subst h0
    rfl
  · obtain ⟨m, hm⟩ : ∃ m, (dg W x).length = m + 1 := ⟨(dg W x).length - 1, by omega⟩
    have e1 : IntKind.wrap .i64 (((m + 1 : Nat) : Int) - 1) = (m : Int) := by rw [wrap64 (by omega) (by omega)]; omega
    have e2 : IntKind.wrap .i64 (64 * (m : Int)) = ((64 * m : Nat) : Int) := by rw [wrap64 (by omega) (by omega)]; omega
    have hx : (U (dg W x))[m]? = some (u (x / W ^ m % W)) := by
      rw [U_get, ← dv_dg W2 x, ← dv_get W0 _ (ok_dg W2 x) m, dv_dg W2, List.getD_eq_getElem?_getD, List.getElem?_eq_getElem (show m < (dg W x).length by omega)]; rfl
    simp only [Tryz.f61, hm, e1, e2, go_sem]
    refine qand_i (by omega) ?_
    simp only [Tryz.f61, hm, e1, e2, go_sem]
    refine qval_i (congrArg (Option.map _) hx) ?_
    simp only [Tryz.f61, go_sem]
    refine qcall_i (c_Len64 _ (Nat.mod_lt _ W0)) ?_
    simp only [Tryz.f61, go_sem]
    have := (bitLen_le (x / W ^ m % W) 64).2 (Nat.mod_lt _ W0)
    rw [wrap64 (by omega) (by omega), bitLen_top hm]
    simp
theorem c_Odd (l : List Nat) (ho : Ok W l) : PC E 133 [NL l] (.bool (decide (vl l % 2 = 1))) := by
  refine PC.of_body follows Tryz.func133 (by decide +kernel) rfl (by kernel_rfl) (Nat.le_of_ble_eq_true rfl) (walk ?_)
  simp only [Tryz.f133, go_sem]
  refine qcall_i (n_limb l ho 0) ?_
  have e := b_and (a := lb (vl l) 0) (b := 1) (lb_lt _ _) (by decide)
  simp only [Tryz.f133, u, go_sem]
  have e2 : lb (vl l) 0 &&& 1 = vl l % 2 := by
    rw [Nat.and_one_is_mod]
    show (vl l / W ^ 0 % W) % 2 = _
    rw [Nat.pow_zero, Nat.div_one, Nat.mod_mod_of_dvd _ (by decide)]
  rw [e2] at e
  rw [show (1 : Int) = ((1 : Nat) : Int) from rfl, e]
  simp
  omega
theorem c_Low (l : List Nat) (hl : l.length ≤ 1048576) (ho : Ok W l) : PC E 157 [NL l] (.int .i64 (tz (vl l))) := by
  refine PC.of_body follows Tryz.func157 (by decide +kernel) rfl (by kernel_rfl) (Nat.le_of_ble_eq_true rfl) (walk ?_)
  simp only [NL]
  simp only [Tryz.f157, go_sem]
  refine PLoop.intro (fun i : Nat => ⟨[(0, .val (NL l)), (5, .val (NL l)), (6, .val (.int .i64 l.length)), (7, .val (.int .i64 i))], []⟩) (fun i => i ≤ l.length ∧ vl l % W ^ i = 0) (fun i => l.length - i) 0 (by simp [Nat.mod_one]) (by simp [Wk, sget, NL]) fun i hi => walk ?_
  obtain ⟨hi, hz⟩ := hi
  have hlt := dv_lt l ho
  simp only [NL]
  simp only [Tryz.f157, go_sem]
  refine qif_d (fun h => ?_) (fun h => ?_)
  · have hwi : IntKind.wrap .i64 ((i : Int) + 1) = ((i + 1 : Nat) : Int) := by rw [wrap64 (by omega) (by omega)]; omega
    have e2 : IntKind.wrap .i64 (64 * (i : Int)) = ((64 * i : Nat) : Int) := by rw [wrap64 (by omega) (by omega)]; omega
    have hx : (U l)[i]? = some (u (vl l / W ^ i % W)) := by
      rw [U_get, ← dv_get W0 _ ho i, List.getD_eq_getElem?_getD, List.getElem?_eq_getElem (show i < l.length by omega)]; rfl
    simp only [Tryz.f157, go_sem]
    refine qand_i (by omega) ?_
    simp only [Tryz.f157, go_sem]
    refine qval_i (congrArg (Option.map _) hx) ?_
    simp only [Tryz.f157, u, go_sem]
    refine qif_d (fun h0 => ?_) (fun h0 => ?_)
    · simp only [Tryz.f157, e2, go_sem]
      refine qcall_i (c_TrailingZeros64 _ (Nat.mod_lt _ W0)) ?_
      simp only [Tryz.f157, e2, go_sem]
      have hd : vl l / W ^ i % W ≠ 0 := by omega
      have hk := (Lib.lowest_bit 64 _ hd (Nat.mod_lt _ W0)).2
      rw [wrap64 (by omega) (by omega), tz_limb hz hd]
      simp
    · simp only [Tryz.f157, hwi, go_sem]
      refine ⟨i + 1, ⟨by omega, ?_⟩, by omega, by simp [Wk, sget, NL]⟩
      have hd : vl l / W ^ i % W = 0 := by
        generalize vl l / W ^ i % W = d at h0
        omega
      rw [Nat.pow_succ, Nat.mod_mul, hz, hd]
      rfl
  · have e : i = l.length := by omega
    subst e
    simp only [Tryz.f157, go_sem]
    rw [Nat.mod_eq_of_lt hlt] at hz
    rw [show vl l = 0 from hz]
    rfl
theorem U_replicate (n : Nat) : U (List.replicate n 0) = List.replicate n (.int .u64 0) := by simp [U, u]
theorem c_Shr (l : List Nat) (hl : l.length ≤ 1048576) (ho : Ok W l) (n : Int) : PC E 158 [NL l, .int .i64 n] (.tuple [NN (vl l / 2 ^ n.toNat), .bool (decide (vl l % 2 ^ n.toNat ≠ 0))]) := by
  refine PC.of_body follows Tryz.func158 (by decide +kernel) rfl (by kernel_rfl) (Nat.le_of_ble_eq_true rfl) (walk ?_)
  simp only [Tryz.f158, go_sem]
  refine qcall_i (n_Bare l (by omega) ho) ?_
  have hlen : (dg W (vl l)).length ≤ l.length := (dg_length_le W2 _ _).2 (dv_lt l ho)
  have hbl := bitLen_le_limbs (vl l)
  have hv := dv_dg W2 (vl l)
  have od := ok_dg W2 (vl l)
  simp only [NN]
  generalize hx : vl l = x at *
  have hmx : max n 0 = (n.toNat : Int) := by omega
  generalize n.toNat = k at *
  simp only [Tryz.f158, hmx, go_sem]
  refine qcall_i (c_Bits (dg W x) (by omega) od) ?_
  rw [show vl (dg W x) = x from hv]
  simp only [Tryz.f158, hmx, go_sem]
  refine qif_d (fun h => ?_) (fun h => ?_)
  · simp only [NL]
    simp only [Tryz.f158, go_sem]
    have hlt : x < 2 ^ k := (bitLen_le x k).1 (by omega)
    rw [Nat.div_eq_of_lt hlt, Nat.mod_eq_of_lt hlt]
    refine ⟨rfl, ?_⟩
    have := (dg_length_le W2 0 x)
    rw [Nat.pow_zero] at this
    rw [decide_eq_decide]
    omega
  · have hk : k < bitLen x := by omega
    have e1 : IntKind.wrap .i64 ((k : Int).tdiv 64) = ((k / 64 : Nat) : Int) := by
      rw [Int.tdiv_eq_ediv_of_nonneg (by omega), wrap64 (by omega) (by omega)]; omega
    have e2 : (k : Int).tmod 64 = ((k % 64 : Nat) : Int) := by
      rw [Int.tmod_eq_emod_of_nonneg (by omega)]; omega
    have e3 : IntKind.wrap .i64 (((dg W x).length : Int) - ((k / 64 : Nat) : Int)) = (((dg W x).length - k / 64 : Nat) : Int) := by
      rw [wrap64 (by omega) (by omega)]; omega
    have hlx := (dg_length_le W2 _ x).1 (Nat.le_refl _)
    simp only [NL]
    simp only [Tryz.f158, hmx, e1, e2, e3, go_sem]
    refine qand_i (by omega) ?_
    simp only [Tryz.f158, hmx, e1, e2, e3, go_sem]
    generalize hm : (dg W x).length - k / 64 = m at *
    generalize hw : k / 64 = w at *
    generalize hp : k % 64 = p at *
    have hkk : k = 64 * w + p := by omega
    have hp64 : p < 64 := by omega
    have hy : x / 2 ^ k < W ^ m := by
      rw [Nat.div_lt_iff_lt_mul (Nat.two_pow_pos k), W_pow, ← Nat.pow_add]
      refine Nat.lt_of_lt_of_le hlx ?_
      rw [W_pow]
      exact Nat.pow_le_pow_right (by decide) (by omega)
    refine PLoop.intro (fun i : Nat => ⟨[(0, .val (NL (dg W x))), (1, .val (.int .i64 k)), (6, .val (.int .i64 w)), (7, .val (.int .i64 p)), (8, .row 30), (32, .val (.int .i64 m)), (33, .val (.int .i64 i))],
      [(30, (.row 22 1 m (U (tab W (x / 2 ^ k) i ++ List.replicate (m - i) 0)), false))]⟩) (fun i => i ≤ m) (fun i => m - i) 0 (by omega) (by simp [Wk, sget, NL, tab, U_replicate]) fun i hi => walk ?_
    simp only [Tryz.f158, go_sem]
    refine qif_d (fun h => ?_) (fun h => ?_)
    · have f1 : IntKind.wrap .i64 ((i : Int) + (w : Int)) = ((i + w : Nat) : Int) := by rw [wrap64 (by omega) (by omega)]; omega
      have f2 : IntKind.wrap .i64 (((i + w : Nat) : Int) + 1) = ((i + w + 1 : Nat) : Int) := by rw [wrap64 (by omega) (by omega)]; omega
      have f3 : IntKind.wrap .i64 (64 - (p : Int)) = ((64 - p : Nat) : Int) := by rw [wrap64 (by omega) (by omega)]; omega
      have f4 : IntKind.wrap .i64 ((i : Int) + 1) = ((i + 1 : Nat) : Int) := by rw [wrap64 (by omega) (by omega)]; omega
      have g1 := n_limb (dg W x) od ((i + w : Nat) : Int)
      have g2 := n_limb (dg W x) od ((i + w + 1 : Nat) : Int)
      rw [show vl (dg W x) = x from hv, lb_nat] at g1 g2
      have l1 : x / W ^ (i + w) % W < W := Nat.mod_lt _ W0
      have f5 := b_shr l1 p
      have f6 := b_shl (x / W ^ (i + w + 1) % W) (64 - p)
      have f7 := b_or (a := x / W ^ (i + w) % W / 2 ^ p) (b := x / W ^ (i + w + 1) % W * 2 ^ (64 - p) % W) (Nat.lt_of_le_of_lt (Nat.div_le_self _ _) l1) (Nat.mod_lt _ W0)
      rw [shr_digit x w p i hp64, ← hkk] at f7
      simp only [Tryz.f158, f1, f2, f3, go_sem]
      refine qcall_i g1 ?_
      simp only [Tryz.f158, f1, f2, f3, u, f5, go_sem]
      refine qand_i (by omega) ?_
      simp only [Tryz.f158, f1, f2, f3, u, f5, go_sem]
      refine qcall_i g2 ?_
      simp only [Tryz.f158, f1, f2, f3, u, f5, f6, f7, go_sem]
      refine qand_i (by omega) ?_
      simp only [Tryz.f158, f1, f2, f3, u, f5, f6, f7, go_sem]
      refine qand_i (by omega) ?_
      simp only [Tryz.f158, f1, f2, f3, u, f5, f6, f7, go_sem]
      refine qand_i (by simp [U, tab]; omega) ?_
      simp only [Tryz.f158, f4, hmx, go_sem]
      refine ⟨i + 1, by omega, by omega, ?_⟩
      simp [Wk, sget, u, NL]
      rw [← fill_set (by omega), ← U_set]
      rfl
    · have e : i = m := by omega
      subst e
      simp only [Tryz.f158, go_sem]
      rw [Nat.sub_self, List.replicate_zero, List.append_nil]
      refine qcall_i (r := NN (x / 2 ^ k)) (PC.at_list (n_Bare (tab W (x / 2 ^ k) i) (by rw [tab_length]; omega) (ok_tab W0 _ _)) (tab_length _ _ _) ((dv_tab _ _).trans (Nat.mod_eq_of_lt hy))) ?_
      simp only [Tryz.f158, go_sem]
      refine qcall_i (c_Low (dg W x) (by omega) od) ?_
      rw [show vl (dg W x) = x from hv]
      simp only [Tryz.f158, go_sem]
      have h0 : x ≠ 0 := fun h0 => by subst h0; rw [bitLen_zero] at hk; omega
      rw [decide_eq_decide, Int.ofNat_lt]
      exact tz_lt h0
def shlV (x : Nat) (n : Int) : PV :=
  if n < 0 then .tuple [.lst 0 [], .int .i64 1] else if x = 0 then .tuple [.lst 0 [], .int .i64 0] else if n > 65536 - bitLen x then .tuple [.lst 0 [], .int .i64 2] else .tuple [NN (x * 2 ^ n.toNat), .int .i64 0]
theorem c_Shl (l : List Nat) (hl : l.length ≤ 1048576) (ho : Ok W l) (n : Int) (hn : -9223372036854775808 ≤ n) : PC E 63 [NL l, .int .i64 n] (shlV (vl l) n) := by
  refine PC.of_body follows Tryz.func63 (by decide +kernel) rfl (by kernel_rfl) (Nat.le_of_ble_eq_true rfl) (walk ?_)
  simp only [Tryz.f63, go_sem]
  refine qcall_i (n_Bare l (by omega) ho) ?_
  have hlen : (dg W (vl l)).length ≤ l.length := (dg_length_le W2 _ _).2 (dv_lt l ho)
  have hbl := bitLen_le_limbs (vl l)
  have hv := dv_dg W2 (vl l)
  have od := ok_dg W2 (vl l)
  simp only [NN]
  generalize hx : vl l = x at *
  simp only [Tryz.f63, go_sem]
  refine qif_d (fun h => ?_) (fun h => ?_)
  · simp only [Tryz.f63, go_sem]
    simp [shlV, h]
  simp only [Tryz.f63, go_sem]
  simp only [NL]
  simp only [Tryz.f63, go_sem]
  refine qif_d (fun h0 => ?_) (fun h0 => ?_)
  · have hx0 : x = 0 := by
      have := (dg_length_le W2 0 x).1 (by omega)
      rw [Nat.pow_zero] at this
      omega
    simp only [Tryz.f63, go_sem]
    simp [shlV, h, hx0]
  have hx0 : x ≠ 0 := fun hx0 => h0 (by subst hx0; rfl)
  simp only [Tryz.f63, go_sem]
  have hB := c_Bits (dg W x) (by omega) od
  rw [show vl (dg W x) = x from hv] at hB
  refine qcall_i hB ?_
  have e0 : IntKind.wrap .i64 (65536 - (bitLen x : Int)) = 65536 - (bitLen x : Int) := wrap64 (by omega) (by omega)
  simp only [Tryz.f63, e0, go_sem]
  refine qif_d (fun h1 => ?_) (fun h1 => ?_)
  · simp only [Tryz.f63, go_sem]
    simp [shlV, h, hx0, h1]
  obtain ⟨k, rfl⟩ : ∃ k : Nat, n = k := ⟨n.toNat, by omega⟩
  have hk : k ≤ 65536 := by omega
  have hbp := bitLen_pos hx0
  have e1 : IntKind.wrap .i64 ((k : Int).tdiv 64) = ((k / 64 : Nat) : Int) := by
    rw [Int.tdiv_eq_ediv_of_nonneg (by omega), wrap64 (by omega) (by omega)]; omega
  have e2 : (k : Int).tmod 64 = ((k % 64 : Nat) : Int) := by
    rw [Int.tmod_eq_emod_of_nonneg (by omega)]; omega
  have e3 : IntKind.wrap .i64 (((dg W x).length : Int) + ((k / 64 : Nat) : Int)) = (((dg W x).length + k / 64 : Nat) : Int) := by
    rw [wrap64 (by omega) (by omega)]; omega
  have e4 : IntKind.wrap .i64 ((((dg W x).length + k / 64 : Nat) : Int) + 1) = (((dg W x).length + k / 64 + 1 : Nat) : Int) := by
    rw [wrap64 (by omega) (by omega)]; omega
  have hlx := (dg_length_le W2 _ x).1 (Nat.le_refl _)
  have hr : shlV x k = .tuple [NN (x * 2 ^ k), .int .i64 0] := by
    unfold shlV
    rw [if_neg h, if_neg hx0, if_neg h1, Int.toNat_natCast]
  rw [hr]
  simp only [Tryz.f63, NL, e1, e2, e3, e4, go_sem]
  refine qand_i (by omega) ?_
  simp only [Tryz.f63, NL, e1, e2, e3, e4, go_sem]
  generalize hm : (dg W x).length + k / 64 + 1 = m at *
  generalize hw : k / 64 = w at *
  generalize hp : k % 64 = p at *
  have hkk : k = 64 * w + p := by omega
  have hp64 : p < 64 := by omega
  have hy : x * 2 ^ k < W ^ m := by
    have h2 : x * 2 ^ k < W ^ (dg W x).length * 2 ^ k := Nat.mul_lt_mul_of_pos_right hlx (Nat.two_pow_pos k)
    refine Nat.lt_of_lt_of_le h2 ?_
    rw [W_pow, W_pow, ← Nat.pow_add]
    exact Nat.pow_le_pow_right (by decide) (by omega)
  refine PLoop.intro (fun i : Nat => ⟨[(0, .val (NL (dg W x))), (1, .val (.int .i64 k)), (6, .val (.int .i64 w)), (7, .val (.int .i64 p)), (8, .row 35), (37, .val (.int .i64 m)), (38, .val (.int .i64 i))],
    [(35, (.row 22 1 m (U (tab W (x * 2 ^ k) i ++ List.replicate (m - i) 0)), false))]⟩) (fun i => i ≤ m) (fun i => m - i) 0 (by omega) (by simp [Wk, sget, NL, tab, U_replicate]) fun i hi => walk ?_
  simp only [Tryz.f63, go_sem]
  refine qif_d (fun h => ?_) (fun h => ?_)
  · have f1 : IntKind.wrap .i64 ((i : Int) - (w : Int)) = (i : Int) - w := wrap64 (by omega) (by omega)
    have f2 : IntKind.wrap .i64 ((i : Int) - (w : Int) - 1) = (i : Int) - w - 1 := wrap64 (by omega) (by omega)
    have f3 : IntKind.wrap .i64 (64 - (p : Int)) = ((64 - p : Nat) : Int) := by rw [wrap64 (by omega) (by omega)]; omega
    have f4 : IntKind.wrap .i64 ((i : Int) + 1) = ((i + 1 : Nat) : Int) := by rw [wrap64 (by omega) (by omega)]; omega
    have g1 := n_limb (dg W x) od ((i : Int) - w)
    have g2 := n_limb (dg W x) od ((i : Int) - w - 1)
    rw [show vl (dg W x) = x from hv] at g1 g2
    have f5 := b_shl (lb x ((i : Int) - w)) p
    have f6 := b_shr (lb_lt x ((i : Int) - w - 1)) (64 - p)
    have f7 := b_or (a := lb x ((i : Int) - w) * 2 ^ p % W) (b := lb x ((i : Int) - w - 1) / 2 ^ (64 - p)) (Nat.mod_lt _ W0) (Nat.lt_of_le_of_lt (Nat.div_le_self _ _) (lb_lt _ _))
    rw [shl_digit x w p i hp64, ← hkk] at f7
    simp only [Tryz.f63, f1, f2, f3, go_sem]
    refine qcall_i g1 ?_
    simp only [Tryz.f63, f1, f2, f3, u, f5, go_sem]
    refine qand_i (by omega) ?_
    simp only [Tryz.f63, f1, f2, f3, u, f5, go_sem]
    refine qcall_i g2 ?_
    simp only [Tryz.f63, f1, f2, f3, u, f5, f6, f7, go_sem]
    refine qand_i (by omega) ?_
    simp only [Tryz.f63, f1, f2, f3, u, f5, f6, f7, go_sem]
    refine qand_i (by omega) ?_
    simp only [Tryz.f63, f1, f2, f3, u, f5, f6, f7, go_sem]
    refine qand_i (by simp [U, tab]; omega) ?_
    simp only [Tryz.f63, f4, go_sem]
    refine ⟨i + 1, by omega, by omega, ?_⟩
    simp [Wk, sget, u, NL]
    rw [← fill_set (by omega), ← U_set]
    rfl
  · have e : i = m := by omega
    subst e
    simp only [Tryz.f63, go_sem]
    rw [Nat.sub_self, List.replicate_zero, List.append_nil]
    refine qcall_i (r := NN (x * 2 ^ k)) (PC.at_list (n_Bare (tab W (x * 2 ^ k) i) (by rw [tab_length]; omega) (ok_tab W0 _ _)) (tab_length _ _ _) ((dv_tab _ _).trans (Nat.mod_eq_of_lt hy))) ?_
    simp only [Tryz.f63, go_sem]
section
open Go PG Go.Proofs Go.RowKit
set_option maxRecDepth 100000 in
set_option maxHeartbeats 2000000 in
theorem back_in (F : Fence) (n : Nat) (hfn : F.fn 244) (hro : F.round = none) (hn : 1 ≤ n) (q len cap : Nat) (ad b : Addr) (l : List Nat) (hreach : len ≤ 17592186044416) (Kp : World → World → Prop) (J Jx : List (Fin len) → World → Prop) (Lies : World → Prop) (hKp : ∀ A B, Kp A B → Lies A → Lies B)
    (hL : ∀ A, Lies A → A.cell? ad = some (.slice (some b) len cap) ∧ ∀ j, j < len → A.cell? (b.add j) = some (.int .u64 (l.getD j 0 : Nat)))
    (hY : ∀ pre x W, J pre W → pre.length < len → YieldAt F (n - 1) Tryz.prog q #[.int .i64 (x.1 : Int), .int .u64 (l.getD x.1 0 : Nat)] W fun e W' =>
      (e = .returned (.bool true) ∧ J (pre ++ [x]) W' ∧ Kp W W') ∨ (e = .returned (.bool false) ∧ Jx (pre ++ [x]) W'))
    (W : World) (hlies : Lies W) (h0 : J [] W) :
    CallsIn F n Tryz.prog 244 #[.func (.yield q) #[] #[], .pointer (some ad)] W fun e W' => (∃ v, e = .returned v) ∧
      ((∃ ys, ys = back len ∧ J ys W') ∨ (∃ pre, (∃ k, k ≤ len ∧ pre = back k) ∧ Jx pre W')) := by
  refine callsIn_of_wp Tryz.func244 rfl hfn ?_ hro
  simp only [Tryz.ntmps244, List.size_toArray, List.length_cons, List.length_nil, Nat.reduceAdd, Nat.reduceSub, Array.replicate_succ, Array.replicate_zero, List.push_toArray, List.append_toArray, List.nil_append, List.cons_append]
  obtain ⟨hc0, _⟩ := hL W hlies
  gi_wp2
  gi_loopw [3] (fun i wr => ∃ k : Nat, k ≤ len ∧ i = .int .i64 ((len : Int) - 1 - k) ∧ J (back k) wr ∧ Lies wr)
    (fun i _ => (intOf i + 1).toNat)
  case atStart =>
    refine ⟨0, Nat.zero_le _, ?_, h0, hlies⟩
    simp
  case round =>
    obtain ⟨k, hk, rfl, hJs, hnx⟩ := hrel
    obtain ⟨hc1, hc2⟩ := hL wr hnx
    by_cases hlt : k < len
    · obtain ⟨fn, tmps, assign, body, hy, hR⟩ := hY _ ⟨len - 1 - k, by omega⟩ wr hJs (by rw [back_length _ hk]; exact hlt)
      dsimp only at hy
      have hcx := hc2 (len - 1 - k) (by omega)
      have hi0 : (0 : Int) ≤ (len : Int) - 1 - k := by omega
      have hi1 : (len : Int) - 1 - k < len := by omega
      have hi2 : ((len : Int) - 1 - k).toNat = len - 1 - k := by omega
      have hi3 : ((len - 1 - k : Nat) : Int) = (len : Int) - 1 - k := by omega
      rw [hi3] at hy
      simp only [List.getD_eq_getElem?_getD] at hy hcx
      gi_wp2
      refine hR.mono ?_
      rintro e W3 (⟨rfl, hJ3, hk3⟩ | ⟨rfl, hJx3⟩)
      · gi_wp2
        go_roundw
        case rel =>
          refine ⟨k + 1, by omega, ?_, by rw [back_succ hlt]; exact hJ3, hKp _ _ hk3 hnx⟩
          congr 1; omega
        case measure => simp only [intOf]; omega
      · gi_wp2
        refine bodyPost_ret (results_none rfl _ _ _) rfl ?_
        exact ⟨⟨_, rfl⟩, .inr ⟨_, ⟨k + 1, by omega, (back_succ hlt).symm⟩, hJx3⟩⟩
    · obtain rfl : k = len := by omega
      have hneg : ¬ ((0 : Int) ≤ (k : Int) - 1 - k) := by omega
      gi_wp2
      go_end0
      first | exact ⟨⟨_, rfl⟩, .inl ⟨_, rfl, hJs⟩⟩ | exact ⟨⟨_, rfl⟩, .inl hJs⟩
set_option maxRecDepth 100000 in
set_option maxHeartbeats 1000000 in
theorem back_nil (F : Fence) (n : Nat) (hfn : F.fn 244) (hro : F.round = none) (q : Nat) (ad : Addr) (J : List (Fin 0) → World → Prop) (W : World) (hc0 : W.cell? ad = some (.slice none 0 0)) (h0 : J [] W) :
    CallsIn F n Tryz.prog 244 #[.func (.yield q) #[] #[], .pointer (some ad)] W fun e W' => (∃ v, e = .returned v) ∧ J [] W' := by
  refine callsIn_of_wp Tryz.func244 rfl hfn ?_ hro
  simp only [Tryz.ntmps244, List.size_toArray, List.length_cons, List.length_nil, Nat.reduceAdd, Nat.reduceSub, Array.replicate_succ, Array.replicate_zero, List.push_toArray, List.append_toArray, List.nil_append, List.cons_append]
  gi_wp2
  gi_loopw [3] (fun i wr => i = .int .i64 (-1) ∧ J [] wr) (fun _ _ => 0)
  case atStart => exact ⟨by simp, h0⟩
  case round =>
    obtain ⟨rfl, hJs⟩ := hrel
    gi_wp2
    go_end0
    first | exact ⟨⟨_, rfl⟩, hJs⟩ | exact hJs
theorem iter_back (l : List Nat) (hlen : l.length ≤ 17592186044416) : PIter E 244 [.ref [NL l]] l.length (fun j => u (l.getD j 0)) := by
  refine ⟨fun args w => ?_, fun w Pr lb hPr hsz hreps => ?_⟩
  · have h1 : (Tryz.f244).name ≠ "runtime.NumGoroutine" := by decide +kernel
    have hb : (Tryz.f244).body.isSome = true := by kernel_rfl
    obtain ⟨c, hc⟩ := Option.isSome_iff_exists.1 hb
    simp [callFunc, show E.P.funcs[244]? = some Tryz.f244 from Tryz.func244, h1, hc]
  · obtain ⟨v, rfl⟩ : ∃ v, lb = #[v] := by
      have h2 : lb.toList.length = 1 := by simpa using hsz
      match hv : lb.toList, h2 with
      | [x], _ => exact ⟨x, by apply Array.toList_inj.1; rw [hv]⟩
    obtain ⟨ad, xs, rfl, hall, hm⟩ := (hreps 0 _ v rfl rfl).ref_inv
    obtain ⟨sv, hsv, hrep, _⟩ := hall.at_ (j := 0) rfl
    have hm0 := hm 0 sv hsv
    rw [Addr.add_zero'] at hm0
    refine ⟨fun j => .int .u64 (l.getD j 0 : Nat), fun j hj => Rep.int _ _, fun q J Jx W hW hJ hJx hY h0 => ?_⟩
    have hb : ∀ p x, rd w Pr p = some x → W.cell? p = some x := fun p x hx => by
      obtain ⟨h1, h2⟩ := rd_some.1 hx
      rw [hW.cell (hPr _ _ h1)]; exact h2
    rcases hrep.lst_inv with ⟨rfl, h0l, _⟩ | ⟨b, cap, us, rfl, hn, _, hus, hmu⟩
    · have hl0 : l = [] := List.eq_nil_of_length_eq_zero h0l
      subst hl0
      refine (back_nil (RF none) 3 trivial rfl q ad J W (hb _ _ hm0) h0).mono fun e W' ⟨he, hj⟩ => ⟨he, .inl ⟨[], rfl, hj⟩⟩
    · refine back_in (RF none) 3 trivial rfl (by decide) q l.length cap ad b l hlen (Kg (rd w Pr)) J Jx
        (fun A => ∀ p x, rd w Pr p = some x → A.cell? p = some x) (fun A B hk hA p x hx => hk p x hx (hA p x hx)) (fun A hA => ⟨hA _ _ hm0, fun j hj => ?_⟩) hY W hb h0
      obtain ⟨x, hx, hrx, _⟩ := hus.at_ (j := j) (c := u (l.getD j 0)) (by rw [U_get, List.getD_eq_getElem?_getD, List.getElem?_eq_getElem hj]; rfl)
      have := hA _ _ (hmu j x hx)
      rw [this, hrx.int_inv]
theorem c_Backward (n : Nat) (cs : List PV) : PC E 224 [.lst n cs] (.clo 244 [.ref [.lst n cs]]) := by
  refine PC.of_body follows Tryz.func224 (by decide +kernel) rfl (by kernel_rfl) (Nat.le_of_ble_eq_true rfl) (walk ?_)
  simp only [Tryz.f224, go_sem]
end
def sgn (a b : Int) : Int := if a < b then -1 else if b < a then 1 else 0
theorem c_isNaN_int (x : Int) : PC E 216 [.int .i64 x] (.bool false) := by
  refine PC.of_body follows Tryz.func216 (by decide +kernel) rfl (by kernel_rfl) (Nat.le_of_ble_eq_true rfl) (walk ?_)
  simp only [Tryz.f216, go_sem]
theorem c_isNaN_u64 (x : Nat) : PC E 245 [u x] (.bool false) := by
  refine PC.of_body follows Tryz.func245 (by decide +kernel) rfl (by kernel_rfl) (Nat.le_of_ble_eq_true rfl) (walk ?_)
  simp only [Tryz.f245, u, go_sem]
theorem c_Compare_int (x y : Int) : PC E 161 [.int .i64 x, .int .i64 y] (.int .i64 (sgn x y)) := by
  refine PC.of_body follows Tryz.func161 (by decide +kernel) rfl (by kernel_rfl) (Nat.le_of_ble_eq_true rfl) (walk ?_)
  simp only [Tryz.f161, go_sem]
  refine qcall_i (c_isNaN_int x) ?_
  simp only [Tryz.f161, go_sem]
  refine qcall_i (c_isNaN_int y) ?_
  simp only [Tryz.f161, go_sem]
  refine qif_d (fun h => ?_) (fun h => ?_)
  · simp only [Tryz.f161, go_sem]
    simp [sgn, h]
  · simp only [Tryz.f161, go_sem]
    refine qif_d (fun h' => ?_) (fun h' => ?_)
    · simp only [Tryz.f161, go_sem]
      simp [sgn, h, h']
    · simp only [Tryz.f161, go_sem]
      simp [sgn, h, h']
theorem c_Compare_u64 (x y : Nat) : PC E 225 [u x, u y] (.int .i64 (sgn x y)) := by
  refine PC.of_body follows Tryz.func225 (by decide +kernel) rfl (by kernel_rfl) (Nat.le_of_ble_eq_true rfl) (walk ?_)
  simp only [Tryz.f225, u, go_sem]
  refine qcall_i (c_isNaN_u64 x) ?_
  simp only [Tryz.f225, u, go_sem]
  refine qcall_i (c_isNaN_u64 y) ?_
  simp only [Tryz.f225, u, go_sem]
  refine qif_d (fun h => ?_) (fun h => ?_)
  · simp only [Tryz.f225, u, go_sem]
    simp [sgn, h]
  · simp only [Tryz.f225, u, go_sem]
    refine qif_d (fun h' => ?_) (fun h' => ?_)
    · simp only [Tryz.f225, u, go_sem]
      simp [sgn, h, h']
    · simp only [Tryz.f225, u, go_sem]
      simp [sgn, h, h']
theorem dv_eq_of {b : Nat} : ∀ (l r : List Nat), l.length = r.length → (∀ i, i < l.length → l.getD i 0 = r.getD i 0) → dv b l = dv b r
  | [], [], _, _ => rfl
  | [], _ :: _, h, _ => by simp at h
  | _ :: _, [], h, _ => by simp at h
  | d :: l, e :: r, h, ha => by
    have h0 := ha 0 (by simp)
    simp at h0
    simp only [dv]
    rw [h0, dv_eq_of l r (by simpa using h) fun i hi => by have := ha (i + 1) (by simpa using hi); simpa using this]
theorem dv_lt_of {b : Nat} : ∀ (l r : List Nat) (i : Nat), Ok b l → l.length = r.length → i < l.length → l.getD i 0 < r.getD i 0 → (∀ j, i < j → j < l.length → l.getD j 0 = r.getD j 0) → dv b l < dv b r
  | [], _, i, _, _, hi, _, _ => by simp at hi
  | _ :: _, [], _, _, h, _, _, _ => by simp at h
  | d :: l, e :: r, 0, ho, h, hi, hlt, ha => by
    simp at hlt
    simp only [dv]
    rw [dv_eq_of l r (by simpa using h) fun i hi => by have := ha (i + 1) (by omega) (by simpa using hi); simpa using this]
    omega
  | d :: l, e :: r, i + 1, ho, h, hi, hlt, ha => by
    have ih := dv_lt_of l r i ho.tail (by simpa using h) (by simpa using hi) (by simpa using hlt) fun j hj hjl => by have := ha (j + 1) (by omega) (by simpa using hjl); simpa using this
    have hd := ho.head
    simp only [dv]
    have : b * (dv b l + 1) ≤ b * dv b r := Nat.mul_le_mul_left _ ih
    rw [Nat.mul_add, Nat.mul_one] at this
    omega
theorem mem_back {n : Nat} {j : Nat} : ∀ k, k ≤ n → (j ∈ (back (n := n) k).map (·.1) ↔ n - k ≤ j ∧ j < n)
  | 0, _ => by simp [back]
  | k + 1, h => by
    rw [back_succ h, List.map_append, List.mem_append, mem_back k (by omega)]
    simp only [List.map_cons, List.map_nil, List.mem_singleton]
    omega
theorem sgn_of_len {x y : Nat} (h : (dg W x).length ≠ (dg W y).length) : sgn ((dg W x).length : Int) ((dg W y).length : Int) = sgn x y := by
  have hx := (dg_length_le W2 _ x).1 (Nat.le_refl _)
  have hy := (dg_length_le W2 _ y).1 (Nat.le_refl _)
  unfold sgn
  rcases Nat.lt_or_gt_of_ne h with hlt | hlt
  · have hxy : x < y := by
      refine Nat.lt_of_not_le fun hle => ?_
      have := (dg_length_le W2 (dg W x).length y).2 (Nat.lt_of_le_of_lt hle hx)
      omega
    rw [if_pos (by omega), if_pos (by omega)]
  · have hxy : y < x := by
      refine Nat.lt_of_not_le fun hle => ?_
      have := (dg_length_le W2 (dg W y).length x).2 (Nat.lt_of_le_of_lt hle hy)
      omega
    rw [if_neg (by omega), if_pos (by omega), if_neg (by omega), if_pos (by omega)]
theorem c_Cmp (a b : List Nat) (ha : a.length ≤ 1048576) (hb : b.length ≤ 1048576) (oa : Ok W a) (ob : Ok W b) : PC E 181 [NL a, NL b] (.int .i64 (sgn (vl a) (vl b))) := by
  refine PC.of_body follows Tryz.func181 (by decide +kernel) rfl (by kernel_rfl) (Nat.le_of_ble_eq_true rfl) (walk ?_)
  simp only [NL]
  simp only [Tryz.f181, go_sem]
  refine qcall_i (n_Bare a (by omega) oa) ?_
  simp only [Tryz.f181, go_sem]
  refine qcall_i (n_Bare b (by omega) ob) ?_
  have hla : (dg W (vl a)).length ≤ a.length := (dg_length_le W2 _ _).2 (dv_lt a oa)
  have hlb : (dg W (vl b)).length ≤ b.length := (dg_length_le W2 _ _).2 (dv_lt b ob)
  generalize vl a = x at *
  generalize vl b = y at *
  have hx := dv_dg W2 x
  have hy := dv_dg W2 y
  have ox := ok_dg W2 x
  have oy := ok_dg W2 y
  have hlen := @sgn_of_len x y
  simp only [NN, NL]
  generalize dg W x = l at *
  generalize dg W y = r at *
  simp only [Tryz.f181, go_sem]
  refine qcall_i (c_Compare_int _ _) ?_
  simp only [Tryz.f181, go_sem]
  refine qif_d (fun h => ?_) (fun h => ?_)
  · have hne : l.length ≠ r.length := fun e => h (by simp [sgn, e])
    simp only [Tryz.f181, go_sem]
    rw [hlen hne]
  · have hll : l.length = r.length := by
      unfold sgn at h
      split at h
      · simp at h
      · split at h
        · simp at h
        · omega
    simp only [Tryz.f181, go_sem]
    refine qcall_i (c_Backward _ _) ?_
    simp only [Tryz.f181, go_sem]
    let St : Int → List (Nat × (Bk × Bool)) := fun c => [(2, (.box [.lst l.length (U l)], false)), (3, (.box [.lst r.length (U r)], false)), (4, (.box [.int .i64 c], false))]
    refine PRange.intro (iter_back l (by omega)) rfl (by decide) (by decide) (by decide) (by decide) (.inl rfl) (by omega) (fun _ => St 0) (fun pre => ∀ i ∈ pre, l.getD i 0 = r.getD i 0)
      (fun pre e σ => e = .ret ∧ ∃ p0 i, pre = p0 ++ [i] ∧ i < l.length ∧ (∀ i ∈ p0, l.getD i 0 = r.getD i 0) ∧ l.getD i 0 ≠ r.getD i 0 ∧ σ = St (sgn (l.getD i 0 : Nat) (r.getD i 0 : Nat))) (by simp) ?_ (fun pre i hJ hp hi => walk ?_) (fun hJ => ?_) (fun k e σx hk hq => ?_)
    · simp [St, sget]
    · have hxl : (U l)[i]? = some (u (l.getD i 0)) := by
        rw [U_get, List.getD_eq_getElem?_getD, List.getElem?_eq_getElem hi]; rfl
      have hxr : (U r)[i]? = some (u (r.getD i 0)) := by
        rw [U_get, List.getD_eq_getElem?_getD, List.getElem?_eq_getElem (show i < r.length by omega)]; rfl
      simp only [St, shiftT, shiftSV, shiftB]
      simp only [Tryz.f181, go_sem]
      refine qand_i (by omega) ?_
      simp only [Tryz.f181, hxl, go_sem]
      refine qand_i (by omega) ?_
      simp only [Tryz.f181, hxr, go_sem]
      refine qcall_i (c_Compare_u64 _ _) ?_
      simp only [Tryz.f181, go_sem]
      refine qif_d (fun hc => ?_) (fun hc => ?_)
      · simp only [Tryz.f181, go_sem]
        refine ⟨St (sgn (l.getD i 0 : Nat) (r.getD i 0 : Nat)), ⟨pre, i, rfl, hi, hJ, fun e => hc (by rw [e]; simp [sgn]), rfl⟩, by simp [St, sget]⟩
      · simp only [Tryz.f181, go_sem]
        refine ⟨fun j hj => ?_, by simp [St, sget]⟩
        rcases List.mem_append.1 hj with hj | hj
        · exact hJ j hj
        · simp only [List.mem_singleton] at hj
          subst hj
          unfold sgn at hc
          split at hc
          · simp at hc
          · split at hc
            · simp at hc
            · omega
    · have e : x = y := by
        rw [← hx, ← hy]
        exact dv_eq_of l r hll fun i hi => hJ i ((mem_back _ (Nat.le_refl _)).2 (by omega))
      subst e
      simp only [St]
      simp only [Tryz.f181, go_sem]
      simp [sgn]
    · obtain ⟨rfl, p0, i, hpre, hi, hJ, hne, rfl⟩ := hq
      have hk0 : 0 < k := by
        cases k with
        | zero => simp [back] at hpre
        | succ k => omega
      obtain ⟨k, rfl⟩ : ∃ j, k = j + 1 := ⟨k - 1, by omega⟩
      rw [back_succ hk, List.map_append] at hpre
      obtain ⟨rfl, hi'⟩ := List.append_inj' hpre rfl
      simp only [List.map_cons, List.map_nil, List.cons.injEq, and_true] at hi'
      have hup : ∀ j, i < j → j < l.length → l.getD j 0 = r.getD j 0 := fun j h1 h2 => hJ j ((mem_back _ (by omega)).2 (by omega))
      have e : sgn (l.getD i 0 : Nat) (r.getD i 0 : Nat) = sgn x y := by
        unfold sgn
        rcases Nat.lt_or_gt_of_ne hne with hlt | hlt
        · have := dv_lt_of (b := W) l r i ox hll hi hlt hup
          rw [hx, hy] at this
          rw [if_pos (by omega), if_pos (by omega)]
        · have := dv_lt_of (b := W) r l i oy hll.symm (by omega) hlt (fun j h1 h2 => (hup j h1 (by omega)).symm)
          rw [hx, hy] at this
          rw [if_neg (by omega), if_pos (by omega), if_neg (by omega), if_pos (by omega)]
      rw [e]
      simp only [St]
      simp only [Tryz.f181, go_sem]
theorem borrow_le (A B M : Nat) : borrow A B M ≤ 1 := by unfold borrow; split <;> omega
theorem c_Sub (a b : List Nat) (ha : a.length ≤ 1048576) (hb : b.length ≤ 1048576) (oa : Ok W a) (ob : Ok W b) :
    PC E 188 [NL a, NL b] (if vl a < vl b then .tuple [.lst 0 [], .int .i64 1] else .tuple [NN (vl a - vl b), .int .i64 0]) := by
  refine PC.of_body follows Tryz.func188 (by decide +kernel) rfl (by kernel_rfl) (Nat.le_of_ble_eq_true rfl) (walk ?_)
  simp only [Tryz.f188, go_sem]
  refine qcall_i (c_Cmp a b ha hb oa ob) ?_
  simp only [NL]
  simp only [Tryz.f188, go_sem]
  refine qif_d (fun h => ?_) (fun h => ?_)
  · have hlt : vl a < vl b := by
      unfold sgn at h
      split at h
      · omega
      · split at h <;> simp at h
    simp only [Tryz.f188, go_sem]
    rw [if_pos hlt]
  · have hge : ¬ vl a < vl b := fun hlt => h (by unfold sgn; rw [if_pos (by omega)]; decide)
    rw [if_neg hge]
    have hA : vl a < W ^ a.length := dv_lt a oa
    simp only [Tryz.f188, go_sem]
    refine qand_i (by omega) ?_
    simp only [Tryz.f188, go_sem]
    generalize hA0 : vl a = A at *
    generalize hB0 : vl b = B at *
    have hM1 : A - B < W ^ a.length := by omega
    refine PLoop.intro (fun i : Nat => ⟨[(0, .val (NL a)), (1, .val (NL b)), (6, .row 15), (7, .val (u (borrow A B (W ^ i)))), (17, .val (.int .i64 a.length)), (18, .val (.int .i64 i))],
      [(15, (.row 22 1 a.length (U (tab W (A - B) i ++ List.replicate (a.length - i) 0)), false))]⟩) (fun i => i ≤ a.length) (fun i => a.length - i) 0 (by omega) ?_ fun i hi => walk ?_
    · simp [Wk, sget, NL, borrow_one, u, U, tab]
    · simp only [NL]
      simp only [Tryz.f188, go_sem]
      refine qif_d (fun h => ?_) (fun h => ?_)
      · have hMi : 0 < W ^ i := Nat.pow_pos W0
        have hwi : IntKind.wrap .i64 ((i : Int) + 1) = ((i + 1 : Nat) : Int) := by rw [wrap64 (by omega) (by omega)]; omega
        have hx : (U a)[i]? = some (u (A / W ^ i % W)) := by
          rw [U_get, ← hA0, ← dv_get W0 _ oa i, List.getD_eq_getElem?_getD, List.getElem?_eq_getElem (show i < a.length by omega)]; rfl
        simp only [Tryz.f188, go_sem]
        refine qand_i (by omega) ?_
        simp only [Tryz.f188, go_sem]
        refine qval_i (congrArg (Option.map _) hx) ?_
        simp only [Tryz.f188, go_sem]
        refine qcall_i (n_limb b ob i) ?_
        simp only [Tryz.f188, go_sem]
        rw [hB0, lb_nat]
        refine qcall_i (c_Sub64 _ _ _ (borrow_le _ _ _)) ?_
        simp only [Tryz.f188, go_sem]
        refine qand_i (by omega) ?_
        simp only [Tryz.f188, u, go_sem]
        refine qand_i (by simp [U, tab]; omega) ?_
        simp only [Tryz.f188, hwi, go_sem]
        refine ⟨i + 1, by omega, by omega, ?_⟩
        have e1 := borrow_digit (W := W) hMi (show B ≤ A by omega) W0
        have e2 : (A / W ^ i % W + W - B / W ^ i % W - borrow A B (W ^ i)) % W = (A - B) / W ^ i % W := by
          rw [← e1]
          have h1 : B / W ^ i % W < W := Nat.mod_lt _ W0
          have h2 := borrow_le A B (W ^ i)
          have : A / W ^ i % W + W + W - B / W ^ i % W - borrow A B (W ^ i) = (A / W ^ i % W + W - B / W ^ i % W - borrow A B (W ^ i)) + W := by omega
          rw [this, Nat.add_mod_right]
        rw [e2, ← borrow_next hMi, ← Nat.pow_succ]
        simp [Wk, sget, u, NL]
        rw [← fill_set (by omega), ← U_set]
        rfl
      · have e : i = a.length := by omega
        subst e
        simp only [Tryz.f188, go_sem]
        rw [Nat.sub_self, List.replicate_zero, List.append_nil]
        refine qcall_i (r := NN (A - B)) (PC.at_list (n_Bare (tab W (A - B) a.length) (by rw [tab_length]; omega) (ok_tab W0 _ _)) (tab_length _ _ _) ((dv_tab _ _).trans (Nat.mod_eq_of_lt hM1))) ?_
        simp only [Tryz.f188, go_sem]
section
section
open Go PG Go.Proofs
abbrev B : Nat := 65536
theorem B2 : 2 ≤ B := by decide
theorem B0 : 0 < B := by decide
def e32 (d : Nat) : PV := .int .u32 d
def V (l : List Nat) : List PV := l.map e32
def VL (l : List Nat) : PV := .lst l.length (V l)
def VN (x : Nat) : PV := VL (dg B x)
abbrev vd (l : List Nat) : Nat := dv B l
theorem V_length (l : List Nat) : (V l).length = l.length := by simp [V]
theorem V_get (l : List Nat) (i : Nat) : (V l)[i]? = (l[i]?).map e32 := by simp [V]
theorem V_take (l : List Nat) (i : Nat) : (V l).take i = V (l.take i) := by simp [V, List.map_take]
theorem V_append (l r : List Nat) : V l ++ V r = V (l ++ r) := by simp [V]
theorem V_one (d : Nat) : V [d] = [.int .u32 d] := rfl
theorem V_set (l : List Nat) (i d : Nat) : (V l).set i (e32 d) = V (l.set i d) := by simp [V, List.map_set]
theorem V_getD {l : List Nat} {i : Nat} (h : i < l.length) : (V l)[i]? = some (e32 (l.getD i 0)) := by
  rw [V_get, List.getD_eq_getElem?_getD, List.getElem?_eq_getElem h]; rfl
theorem U_getD {l : List Nat} {i : Nat} (h : i < l.length) : (U l)[i]? = some (u (l.getD i 0)) := by
  rw [U_get, List.getD_eq_getElem?_getD, List.getElem?_eq_getElem h]; rfl
theorem wrap32 {a : Nat} (h : a < 4294967296) : IntKind.wrap .u32 (a : Int) = (a : Int) := by
  rw [IntKind.wrap_u32]; omega
theorem c_Norm (l : List Nat) (hl : l.length ≤ 4194304) : PC E 207 [VL l] (VL (strip l)) := by
  refine PC.of_body follows Tryz.func207 (by decide +kernel) rfl (by kernel_rfl) (Nat.le_of_ble_eq_true rfl) (walk ?_)
  simp only [VL]
  simp only [Tryz.f207, go_sem]
  refine PLoop.intro (fun k : Nat => ⟨[(0, .val (VL l)), (3, .val (.int .i64 k))], []⟩) (fun k => k ≤ l.length ∧ strip l = strip (l.take k)) id l.length (by simp) (by simp [Wk, sget, VL]) fun k hk => walk ?_
  obtain ⟨hk, hs⟩ := hk
  simp only [VL]
  simp only [Tryz.f207, go_sem]
  refine qif_d (fun h => ?_) (fun h => ?_)
  · have hw : IntKind.wrap .i64 ((k : Int) - 1) = ((k - 1 : Nat) : Int) := by rw [wrap64 (by omega) (by omega)]; omega
    have hx := V_getD (l := l) (i := k - 1) (by omega)
    simp only [Tryz.f207, hw, go_sem]
    refine qand_i (by omega) ?_
    simp only [Tryz.f207, hx, e32, go_sem]
    refine qif_d (fun h0 => ?_) (fun h0 => ?_)
    · simp only [Tryz.f207, hw, go_sem]
      refine ⟨k - 1, ⟨by omega, ?_⟩, by simp only [id]; omega, by simp [Wk, sget, VL]⟩
      rw [hs]
      obtain ⟨j, rfl⟩ : ∃ j, k = j + 1 := ⟨k - 1, by omega⟩
      rw [List.take_succ_eq_append_getElem (by omega), Nat.add_sub_cancel, show l[j] = 0 by simpa [List.getD_eq_getElem?_getD, show j < l.length by omega] using h0, strip_snoc0]
    · simp only [Tryz.f207, hw, go_sem]
      refine qand_i (by first | omega | (simp [V_length, U_length, tab_length, maxLen]; done) | (simp [V_length, U_length, tab_length, maxLen]; omega) | (refine ⟨?_, ?_⟩ <;> first | omega | (simp [V_length, U_length, tab_length, maxLen]; done) | (simp [V_length, U_length, tab_length, maxLen]; omega))) ?_; simp only [Tryz.f207, V_take, go_sem]
      refine qand_i (by first | omega | (simp [V_length, U_length, tab_length, maxLen]; done) | (simp [V_length, U_length, tab_length, maxLen]; omega) | (refine ⟨?_, ?_⟩ <;> first | omega | (simp [V_length, U_length, tab_length, maxLen]; done) | (simp [V_length, U_length, tab_length, maxLen]; omega))) ?_; simp only [Tryz.f207, V_take, go_sem]
      refine qand_i (by first | omega | (simp [V_length, U_length, tab_length, maxLen]; done) | (simp [V_length, U_length, tab_length, maxLen]; omega) | (refine ⟨?_, ?_⟩ <;> first | omega | (simp [V_length, U_length, tab_length, maxLen]; done) | (simp [V_length, U_length, tab_length, maxLen]; omega))) ?_; simp only [Tryz.f207, V_take, go_sem]
      have e : strip l = l.take k := by
        rw [hs]
        obtain ⟨j, rfl⟩ : ∃ j, k = j + 1 := ⟨k - 1, by omega⟩
        rw [List.take_succ_eq_append_getElem (by omega), strip_snoc]
        intro h1
        apply h0
        simp [List.getD_eq_getElem?_getD, show j < l.length by omega, h1]
      rw [e]
      simp [VL, hk]
  · simp only [Tryz.f207, go_sem]
    have hk0 : k = 0 := by omega
    subst hk0
    refine qand_i (by first | omega | (simp [V_length, U_length, tab_length, maxLen]; done) | (simp [V_length, U_length, tab_length, maxLen]; omega) | (refine ⟨?_, ?_⟩ <;> first | omega | (simp [V_length, U_length, tab_length, maxLen]; done) | (simp [V_length, U_length, tab_length, maxLen]; omega))) ?_; simp only [Tryz.f207, V_take, go_sem]
    refine qand_i (by first | omega | (simp [V_length, U_length, tab_length, maxLen]; done) | (simp [V_length, U_length, tab_length, maxLen]; omega) | (refine ⟨?_, ?_⟩ <;> first | omega | (simp [V_length, U_length, tab_length, maxLen]; done) | (simp [V_length, U_length, tab_length, maxLen]; omega))) ?_; simp only [Tryz.f207, V_take, go_sem]
    refine qand_i (by first | omega | (simp [V_length, U_length, tab_length, maxLen]; done) | (simp [V_length, U_length, tab_length, maxLen]; omega) | (refine ⟨?_, ?_⟩ <;> first | omega | (simp [V_length, U_length, tab_length, maxLen]; done) | (simp [V_length, U_length, tab_length, maxLen]; omega))) ?_; simp only [Tryz.f207, V_take, go_sem]
    simp [hs, strip, V, VL]
theorem n_Norm (l : List Nat) (hl : l.length ≤ 4194304) (ho : Ok B l) : PC E 207 [VL l] (VN (vd l)) :=
  PC.cast (c_Norm l hl) (by rw [strip_eq B2 l ho]; rfl)
theorem W_B : W = B ^ 4 := by decide
theorem n_tmod (a b : Nat) : Int.tmod (a : Int) (b : Int) = ((a % b : Nat) : Int) := by
  rw [Int.tmod_eq_emod_of_nonneg (Int.natCast_nonneg a)]; rfl
theorem n_tdiv (a b : Nat) : Int.tdiv (a : Int) (b : Int) = ((a / b : Nat) : Int) := by
  rw [Int.tdiv_eq_ediv_of_nonneg (Int.natCast_nonneg a)]; rfl
theorem limb_digit (x i : Nat) {k : Nat} (hk : k < 4) : x / W ^ i % W / B ^ k % B = x / B ^ (4 * i + k) % B := by
  have e1 : W ^ i = B ^ (4 * i) := by rw [W_B, ← Nat.pow_mul]
  have e2 : W = B ^ k * B ^ (4 - k) := by rw [← Nat.pow_add, show k + (4 - k) = 4 by omega, W_B]
  have e3 : B ∣ B ^ (4 - k) := by
    obtain ⟨j, hj⟩ : ∃ j, 4 - k = j + 1 := ⟨4 - k - 1, by omega⟩
    rw [hj, Nat.pow_succ]; exact ⟨B ^ j, Nat.mul_comm _ _⟩
  rw [e1, Nat.pow_add, ← Nat.div_div_eq_div_mul]
  generalize x / B ^ (4 * i) = y
  rw [e2, Nat.mod_mul_right_div_self, Nat.mod_mod_of_dvd _ e3]
theorem PC.at_vlist {f : FuncId} {l : List Nat} {n x y : Nat} (h : PC E f [VL l] (VN x)) (hn : l.length = n) (e : x = y) : PC E f [.lst n (V l)] (VN y) := by
  subst hn; subst e; exact h
theorem c_To (a : List Nat) (ha : a.length ≤ 1048576) (oa : Ok W a) : PC E 208 [NL a] (VN (vl a)) := by
  refine PC.of_body follows Tryz.func208 (by decide +kernel) rfl (by kernel_rfl) (Nat.le_of_ble_eq_true rfl) (walk ?_)
  simp only [NL]
  simp only [Tryz.f208, go_sem]
  have hA : vl a < W ^ a.length := dv_lt a oa
  have hA4 : vl a < B ^ (4 * a.length) := by rw [W_B, ← Nat.pow_mul] at hA; exact hA
  have hget : ∀ i, a.getD i 0 = vl a / W ^ i % W := fun i => dv_get W0 a oa i
  generalize vl a = x at *
  refine PLoop.nilrow 3 26 (by decide) 139 1 rfl ?_
  refine PLoop.intro (fun i : Nat => ⟨[(0, .val (NL a)), (3, .row 26), (4, .val (.int .i64 i))], [(26, (.row 139 1 (4 * i) (V (tab B x (4 * i))), false))]⟩) (fun i => i ≤ a.length) (fun i => a.length - i) 0 (by omega) ?_ fun i hi => walk ?_
  · simp [Wk, sget, killL, kill1, SV.key, NL, VL, u, e32, tab, V]
  simp only [NL]
  simp only [Tryz.f208, go_sem]
  refine qif_d (fun h => ?_) (fun h => ?_)
  · have hx := U_getD (l := a) (i := i) (by omega)
    rw [hget] at hx
    simp only [Tryz.f208, go_sem]
    refine qand_i (by first | omega | (simp [V_length, U_length, tab_length, maxLen]; done) | (simp [V_length, U_length, tab_length, maxLen]; omega) | (refine ⟨?_, ?_⟩ <;> first | omega | (simp [V_length, U_length, tab_length, maxLen]; done) | (simp [V_length, U_length, tab_length, maxLen]; omega))) ?_; simp only [Tryz.f208, go_sem]
    refine qval_i (congrArg (Option.map _) hx) ?_
    simp only [Tryz.f208, u, go_sem]
    refine PLoop.intro (fun k : Nat => ⟨[(0, .val (NL a)), (3, .row 26), (4, .val (.int .i64 i)), (5, .val (u (x / W ^ i % W / B ^ k))), (6, .val (.int .i64 k))], [(26, (.row 139 1 (4 * i + k) (V (tab B x (4 * i + k))), false))]⟩) (fun k => k ≤ 4) (fun k => 4 - k) 0 (by omega) ?_ fun k hk => walk ?_
    · simp [Wk, sget, killL, kill1, SV.key, NL, VL, u, e32]
    simp only [NL, u]
    simp only [Tryz.f208, go_sem]
    have hwi : IntKind.wrap .i64 ((i : Int) + 1) = ((i + 1 : Nat) : Int) := by rw [wrap64 (by omega) (by omega)]; omega
    refine qif_d (fun h' => ?_) (fun h' => ?_)
    · have hd := limb_digit x i (show k < 4 by omega)
      have e1 : (((x / W ^ i % W / B ^ k : Nat) : Int)).tmod 65536 = ((x / B ^ (4 * i + k) % B : Nat) : Int) := by
        rw [← hd]; exact n_tmod _ 65536
      have e2 : IntKind.wrap .u32 ((x / B ^ (4 * i + k) % B : Nat) : Int) = ((x / B ^ (4 * i + k) % B : Nat) : Int) := wrap32 (Nat.lt_trans (Nat.mod_lt _ B0) (by decide))
      have e3 : IntKind.wrap .u64 (((x / W ^ i % W / B ^ k : Nat) : Int).tdiv 65536) = ((x / W ^ i % W / B ^ (k + 1) : Nat) : Int) := by
        rw [show (((x / W ^ i % W / B ^ k : Nat) : Int).tdiv 65536) = ((x / W ^ i % W / B ^ k / 65536 : Nat) : Int) from n_tdiv _ 65536, Nat.pow_succ, ← Nat.div_div_eq_div_mul]
        refine wrap_nat64 (a := x / W ^ i % W / B ^ k / 65536) ?_
        exact Nat.lt_of_le_of_lt (Nat.div_le_self _ _) (Nat.lt_of_le_of_lt (Nat.div_le_self _ _) (Nat.mod_lt _ W0))
      have hwk : IntKind.wrap .i64 ((k : Int) + 1) = ((k + 1 : Nat) : Int) := by rw [wrap64 (by omega) (by omega)]; omega
      simp only [Tryz.f208, e1, e2, e3, hwk, go_sem]
      refine qand_i (by first | omega | (simp [V_length, U_length, tab_length, maxLen]; done) | (simp [V_length, U_length, tab_length, maxLen]; omega) | (refine ⟨?_, ?_⟩ <;> first | omega | (simp [V_length, U_length, tab_length, maxLen]; done) | (simp [V_length, U_length, tab_length, maxLen]; omega))) ?_; simp only [Tryz.f208, e1, e2, e3, hwk, go_sem]
      refine ⟨k + 1, by omega, by omega, ?_⟩
      simp [Wk, sget, killL, kill1, SV.key, NL, VL, u, e32, tab_succ, ← Nat.add_assoc, ← V_append, V_one]
    · have hk4 : k = 4 := by omega
      subst hk4
      simp only [Tryz.f208, hwi, go_sem]
      refine ⟨i + 1, by omega, by omega, ?_⟩
      simp [Wk, sget, killL, kill1, SV.key, NL, VL, u, e32, Nat.mul_add]
  · simp only [Tryz.f208, go_sem]
    have e : i = a.length := by omega
    subst e
    refine qcall_i (r := VN x) (PC.at_vlist (n_Norm (tab B x (4 * a.length)) (by rw [tab_length]; omega) (ok_tab B0 _ _)) (tab_length _ _ _) ((dv_tab _ _).trans (Nat.mod_eq_of_lt hA4))) ?_
    simp only [Tryz.f208, go_sem]
end
section
open Go PG Go.Proofs
theorem vn_get (x i : Nat) : (dg B x).getD i 0 = x / B ^ i % B := by
  rw [dv_get B0 _ (ok_dg B2 x) i, dv_dg B2]
theorem vn_at {x i : Nat} (h : i < (dg B x).length) : (V (dg B x))[i]? = some (e32 (x / B ^ i % B)) := by
  rw [V_getD h, vn_get]
theorem vn_pow (i : Nat) : 0 < B ^ i := Nat.pow_pos B0
theorem c_Double (x m : Nat) (hm : m ≤ 1) (hx : (dg B x).length ≤ 4194304) : PC E 231 [VN x, e32 m] (VN (2 * x + m)) := by
  refine PC.of_body follows Tryz.func231 (by decide +kernel) rfl (by kernel_rfl) (Nat.le_of_ble_eq_true rfl) (walk ?_)
  simp only [VN, VL, e32]
  simp only [Tryz.f231, go_sem]
  generalize hn : (dg B x).length = n at *
  generalize hn' : (dg B (2 * x + m)).length = n' at *
  have hi1 : ∀ i, i < n ↔ B ^ i ≤ x := fun i => by rw [← hn]; exact dg_lt B2
  have hi2 : ∀ i, i < n' ↔ B ^ i ≤ 2 * x + m := fun i => by rw [← hn']; exact dg_lt B2
  have hn1 : n' ≤ n + 1 := by
    rw [← hn', dg_length_le B2, Nat.pow_succ]
    have : ¬ B ^ n ≤ x := fun h => by have := (hi1 n).2 h; omega
    have h2 : B ^ n * B = 65536 * B ^ n := Nat.mul_comm _ _
    have := vn_pow n
    omega
  refine PLoop.nilrow 5 36 (by decide) 139 1 rfl ?_
  refine PLoop.intro (fun i : Nat => ⟨[(0, .val (.lst n (V (dg B x)))), (5, .row 36), (6, .val (e32 (dcarry x m (B ^ i)))), (7, .val (.int .i64 i))], [(36, (.row 139 1 i (V (tab B (2 * x + m) i)), false))]⟩) (fun i => i ≤ n') (fun i => n' - i) 0 (by omega) ?_ fun i hi => walk ?_
  · simp [Wk, sget, killL, kill1, SV.key, NL, VL, u, e32, tab, V, dcarry_one]
  have hB : (B : Nat) = 65536 := rfl
  have hc1 := dcarry_le (x := x) (vn_pow i) hm
  have hdig := dcarry_digit (x := x) (m := m) (b := B) (vn_pow i)
  have hnext := dcarry_next (x := x) (m := m) (vn_pow i) B0
  rw [← Nat.pow_succ] at hnext
  have hdl : x / B ^ i % B < B := Nat.mod_lt _ B0
  have hcg : 0 < dcarry x m (B ^ i) → i < n' := fun h => by
    rw [hi2]
    have := dcarry_div (x := x) (m := m) (vn_pow i)
    exact (Nat.div_pos_iff.1 (by omega)).2
  have hin : i < n → i < n' := fun h => by rw [hi2]; have := (hi1 i).1 h; omega
  have hwi : IntKind.wrap .i64 ((i : Int) + 1) = ((i + 1 : Nat) : Int) := by rw [wrap64 (by omega) (by omega)]; omega
  generalize hc : dcarry x m (B ^ i) = c at *
  generalize hd : x / B ^ i % B = d at *
  simp only [e32]
  simp only [Tryz.f231, go_sem]
  have push : ∀ (s : Nat), s % B = (2 * x + m) / B ^ i % B → s / B = dcarry x m (B ^ (i + 1)) → i < n' → s < 4294967296 →
      (((s : Nat) : Int).tmod 65536 = (((2 * x + m) / B ^ i % B : Nat) : Int) ∧ IntKind.wrap .u32 (((s : Nat) : Int).tdiv 65536) = ((dcarry x m (B ^ (i + 1)) : Nat) : Int)) := by
    intro s h1 h2 h3 h4
    refine ⟨by rw [← h1]; exact n_tmod _ 65536, ?_⟩
    rw [show ((s : Nat) : Int).tdiv 65536 = ((s / B : Nat) : Int) from n_tdiv _ 65536, h2]
    exact wrap32 (by have := dcarry_le (x := x) (vn_pow (i + 1)) hm; omega)
  refine qif_d (fun h => ?_) (fun h => ?_)
  · have hin' : i < n := by omega
    have hxx := vn_at (x := x) (i := i) (by omega)
    rw [hd] at hxx
    have e1 : IntKind.wrap .u32 (2 * (d : Int)) = ((2 * d : Nat) : Int) := by rw [show 2 * (d : Int) = ((2 * d : Nat) : Int) by omega]; exact wrap32 (by omega)
    have e2 : IntKind.wrap .u32 ((c : Int) + ((2 * d : Nat) : Int)) = ((2 * d + c : Nat) : Int) := by rw [show (c : Int) + ((2 * d : Nat) : Int) = ((2 * d + c : Nat) : Int) by omega]; exact wrap32 (by omega)
    obtain ⟨p1, p2⟩ := push (2 * d + c) hdig hnext (hin hin') (by omega)
    simp only [Tryz.f231, go_sem]
    refine qif_dt h ?_
    simp only [Tryz.f231, go_sem]
    refine qand_i (by first | omega | (simp [V_length, U_length, tab_length, maxLen]; done) | (simp [V_length, U_length, tab_length, maxLen]; omega) | (refine ⟨?_, ?_⟩ <;> first | omega | (simp [V_length, U_length, tab_length, maxLen]; done) | (simp [V_length, U_length, tab_length, maxLen]; omega))) ?_; simp only [Tryz.f231, go_sem]
    refine qval_i (congrArg (Option.map _) hxx) ?_
    simp only [Tryz.f231, e32, e1, e2, p1, p2, go_sem]
    refine qand_i (by first | omega | (simp [V_length, U_length, tab_length, maxLen]; done) | (simp [V_length, U_length, tab_length, maxLen]; omega) | (refine ⟨?_, ?_⟩ <;> first | omega | (simp [V_length, U_length, tab_length, maxLen]; done) | (simp [V_length, U_length, tab_length, maxLen]; omega))) ?_; simp only [Tryz.f231, hwi, p2, go_sem]
    refine ⟨i + 1, by have := hin hin'; omega, by have := hin hin'; omega, ?_⟩
    simp [Wk, sget, killL, kill1, SV.key, NL, VL, u, e32, tab_succ, ← V_append, V_one]
  · have hd0 : d = 0 := by
      rw [← hd, Nat.div_eq_of_lt, Nat.zero_mod]
      refine Nat.lt_of_not_le fun hle => ?_
      have := (hi1 i).2 hle
      omega
    subst hd0
    simp only [Tryz.f231, go_sem]
    refine qif_d (fun h' => ?_) (fun h' => ?_)
    · have hin' : i < n' := hcg (by omega)
      obtain ⟨p1, p2⟩ := push c (by simpa using hdig) (by simpa using hnext) hin' (by omega)
      simp only [Tryz.f231, go_sem]
      refine qif_df h ?_
      simp only [Tryz.f231, p1, go_sem]
      refine qand_i (by first | omega | (simp [V_length, U_length, tab_length, maxLen]; done) | (simp [V_length, U_length, tab_length, maxLen]; omega) | (refine ⟨?_, ?_⟩ <;> first | omega | (simp [V_length, U_length, tab_length, maxLen]; done) | (simp [V_length, U_length, tab_length, maxLen]; omega))) ?_; simp only [Tryz.f231, hwi, p2, go_sem]
      refine ⟨i + 1, by omega, by omega, ?_⟩
      simp [Wk, sget, killL, kill1, SV.key, NL, VL, u, e32, tab_succ, ← V_append, V_one]
    · simp only [Tryz.f231, go_sem]
      have hlt : 2 * x + m < B ^ i := by
        have h1 : c = 0 := by omega
        have h2 : ¬ B ^ i ≤ x := fun hle => by have := (hi1 i).2 hle; omega
        have h3 := dcarry_div (x := x) (m := m) (vn_pow i)
        rw [hc, h1, Nat.div_eq_of_lt (show x < B ^ i by omega)] at h3
        have h4 := Nat.mod_lt (2 * x + m) (vn_pow i)
        have h5 := Nat.mod_add_div (2 * x + m) (B ^ i)
        rw [h3] at h5
        omega
      have := dg_eq_tab B2 (x := 2 * x + m) (n := i) (by omega) hlt
      have hlen : i = n' := by
        refine Nat.le_antisymm hi (Nat.le_of_not_lt fun hgt => ?_)
        have := (hi2 i).1 hgt
        omega
      rw [this, hlen, ← hn']
      rfl
theorem lt_of_dg {x i : Nat} (h : ¬ i < (dg B x).length) : x < B ^ i := Nat.lt_of_not_le fun hle => h ((dg_lt B2).2 hle)
theorem dig_zero {x i : Nat} (h : ¬ i < (dg B x).length) : x / B ^ i % B = 0 := by rw [Nat.div_eq_of_lt (lt_of_dg h), Nat.zero_mod]
theorem carry_div {A C M : Nat} (hM : 0 < M) : (A + C) / M = A / M + C / M + carry A C M := by
  have e : A + C = (A % M + C % M) + M * (A / M + C / M) := by
    have := Nat.mod_add_div A M
    have := Nat.mod_add_div C M
    rw [Nat.mul_add]
    omega
  rw [e, Nat.add_mul_div_left _ _ hM]
  unfold carry
  omega
theorem c_rAdd (x y : Nat) (hx : (dg B x).length ≤ 4194304) (hy : (dg B y).length ≤ 4194304) : PC E 202 [VN x, VN y] (VN (x + y)) := by
  refine PC.of_body follows Tryz.func202 (by decide +kernel) rfl (by kernel_rfl) (Nat.le_of_ble_eq_true rfl) (walk ?_)
  simp only [VN, VL]
  simp only [Tryz.f202, go_sem]
  generalize hn1 : (dg B x).length = n1 at *
  generalize hn2 : (dg B y).length = n2 at *
  generalize hn' : (dg B (x + y)).length = n' at *
  have hi2 : ∀ i, i < n' ↔ B ^ i ≤ x + y := fun i => by rw [← hn']; exact dg_lt B2
  have hin1 : ∀ i, i < n1 → i < n' := fun i h => by rw [hi2]; have := (dg_lt B2 (x := x) (i := i)).1 (by omega); omega
  have hin2 : ∀ i, i < n2 → i < n' := fun i h => by rw [hi2]; have := (dg_lt B2 (x := y) (i := i)).1 (by omega); omega
  have hn3 : n' ≤ max n1 n2 + 1 := by
    rw [← hn', dg_length_le B2, Nat.pow_succ]
    have h1 := lt_of_dg (x := x) (i := max n1 n2) (by omega)
    have h2 := lt_of_dg (x := y) (i := max n1 n2) (by omega)
    have h3 : B ^ max n1 n2 * B = 65536 * B ^ max n1 n2 := Nat.mul_comm _ _
    omega
  refine PLoop.nilrow 5 50 (by decide) 139 1 rfl ?_
  refine PLoop.intro (fun i : Nat => ⟨[(0, .val (.lst n1 (V (dg B x)))), (1, .val (.lst n2 (V (dg B y)))), (5, .row 50), (6, .val (e32 (carry x y (B ^ i)))), (7, .val (.int .i64 i))], [(50, (.row 139 1 i (V (tab B (x + y) i)), false))]⟩) (fun i => i ≤ n') (fun i => n' - i) 0 (by omega) ?_ fun i hi => walk ?_
  · simp [Wk, sget, killL, kill1, SV.key, NL, VL, u, e32, tab, V, carry_one]
  have hB : (B : Nat) = 65536 := rfl
  have hc1 := carry_le (A := x) (B := y) (vn_pow i)
  have hdig := carry_digit (A := x) (B := y) (W := B) (vn_pow i)
  have hnext := carry_next (A := x) (B := y) (W := B) (vn_pow i)
  rw [← Nat.pow_succ] at hnext
  have hdl : x / B ^ i % B < B := Nat.mod_lt _ B0
  have hel : y / B ^ i % B < B := Nat.mod_lt _ B0
  have hcg : 0 < carry x y (B ^ i) → i < n' := fun h => by
    rw [hi2]
    have := carry_div (A := x) (C := y) (vn_pow i)
    exact (Nat.div_pos_iff.1 (by rw [this]; exact Nat.lt_of_lt_of_le h (Nat.le_add_left _ _))).2
  have hexit : ¬ i < n1 → ¬ i < n2 → ¬ 0 < carry x y (B ^ i) → .lst i (V (tab B (x + y) i)) = VL (dg B (x + y)) := fun h1 h2 h3 => by
    have hlt : x + y < B ^ i := by
      have h4 := carry_div (A := x) (C := y) (vn_pow i)
      rw [Nat.div_eq_of_lt (lt_of_dg (x := x) (i := i) (by omega)), Nat.div_eq_of_lt (lt_of_dg (x := y) (i := i) (by omega))] at h4
      have h5 := Nat.mod_lt (x + y) (vn_pow i)
      have h6 := Nat.mod_add_div (x + y) (B ^ i)
      rw [h4, show carry x y (B ^ i) = 0 by omega] at h6
      omega
    rw [dg_eq_tab B2 (by omega) hlt]
    have hlen : i = n' := by
      refine Nat.le_antisymm hi (Nat.le_of_not_lt fun hgt => ?_)
      have := (hi2 i).1 hgt
      omega
    rw [hlen, ← hn']
    rfl
  have hwi : IntKind.wrap .i64 ((i : Int) + 1) = ((i + 1 : Nat) : Int) := by rw [wrap64 (by omega) (by omega)]; omega
  have hdx : i < n1 → (V (dg B x))[i]? = some (e32 (x / B ^ i % B)) := fun h => vn_at (by omega)
  have hdy : i < n2 → (V (dg B y))[i]? = some (e32 (y / B ^ i % B)) := fun h => vn_at (by omega)
  have hd0 : ¬ i < n1 → x / B ^ i % B = 0 := fun h => dig_zero (by omega)
  have he0 : ¬ i < n2 → y / B ^ i % B = 0 := fun h => dig_zero (by omega)
  generalize hc : carry x y (B ^ i) = c at *
  generalize hd : x / B ^ i % B = d at *
  generalize he : y / B ^ i % B = e at *
  have push : i < n' → ((((c + d + e : Nat) : Nat) : Int).tmod 65536 = (((x + y) / B ^ i % B : Nat) : Int) ∧ IntKind.wrap .u32 (((c + d + e : Nat) : Int).tdiv 65536) = ((carry x y (B ^ (i + 1)) : Nat) : Int)) := by
    intro h3
    refine ⟨by rw [← hdig, show d + e + c = c + d + e by omega]; exact n_tmod _ 65536, ?_⟩
    rw [show ((c + d + e : Nat) : Int).tdiv 65536 = ((c + d + e) / B : Nat) from n_tdiv _ 65536, show c + d + e = d + e + c by omega, hnext]
    exact wrap32 (by have := carry_le (A := x) (B := y) (vn_pow i.succ); omega)
  have e1 : IntKind.wrap .u32 ((c : Int) + (d : Int)) = ((c + d : Nat) : Int) := by rw [show (c : Int) + (d : Int) = ((c + d : Nat) : Int) by omega]; exact wrap32 (by omega)
  have e2 : IntKind.wrap .u32 (((c + d : Nat) : Int) + (e : Int)) = ((c + d + e : Nat) : Int) := by rw [show ((c + d : Nat) : Int) + (e : Int) = ((c + d + e : Nat) : Int) by omega]; exact wrap32 (by omega)
  simp only [e32]
  simp only [Tryz.f202, go_sem]
  refine qif_d (fun h => ?_) (fun h => ?_)
  · obtain ⟨p1, p2⟩ := push (hin1 i (by omega))
    have hin := hin1 i (by omega)
    have hxx := hdx (by omega)
    simp only [Tryz.f202, go_sem]
    refine qif_dt h ?_
    simp only [Tryz.f202, go_sem]
    refine qand_i (by first | omega | (simp [V_length, U_length, tab_length, maxLen]; done) | (simp [V_length, U_length, tab_length, maxLen]; omega) | (refine ⟨?_, ?_⟩ <;> first | omega | (simp [V_length, U_length, tab_length, maxLen]; done) | (simp [V_length, U_length, tab_length, maxLen]; omega))) ?_; simp only [Tryz.f202, go_sem]
    refine qval_i (congrArg (Option.map _) hxx) ?_
    simp only [Tryz.f202, e32, e1, go_sem]
    refine qif_d (fun h' => ?_) (fun h' => ?_)
    · have hyy := hdy (by omega)
      simp only [Tryz.f202, go_sem]
      refine qand_i (by first | omega | (simp [V_length, U_length, tab_length, maxLen]; done) | (simp [V_length, U_length, tab_length, maxLen]; omega) | (refine ⟨?_, ?_⟩ <;> first | omega | (simp [V_length, U_length, tab_length, maxLen]; done) | (simp [V_length, U_length, tab_length, maxLen]; omega))) ?_; simp only [Tryz.f202, go_sem]
      refine qval_i (congrArg (Option.map _) hyy) ?_
      simp only [Tryz.f202, e32, e2, p1, go_sem]
      refine qand_i (by first | omega | (simp [V_length, U_length, tab_length, maxLen]; done) | (simp [V_length, U_length, tab_length, maxLen]; omega) | (refine ⟨?_, ?_⟩ <;> first | omega | (simp [V_length, U_length, tab_length, maxLen]; done) | (simp [V_length, U_length, tab_length, maxLen]; omega))) ?_; simp only [Tryz.f202, hwi, p2, go_sem]
      refine ⟨i + 1, by omega, by omega, ?_⟩
      simp [Wk, sget, killL, kill1, SV.key, NL, VL, u, e32, tab_succ, ← V_append, V_one]
    · have e0 := he0 (by omega)
      subst e0
      rw [Nat.add_zero] at p1 p2
      simp only [Tryz.f202, p1, go_sem]
      refine qand_i (by first | omega | (simp [V_length, U_length, tab_length, maxLen]; done) | (simp [V_length, U_length, tab_length, maxLen]; omega) | (refine ⟨?_, ?_⟩ <;> first | omega | (simp [V_length, U_length, tab_length, maxLen]; done) | (simp [V_length, U_length, tab_length, maxLen]; omega))) ?_; simp only [Tryz.f202, hwi, p2, go_sem]
      refine ⟨i + 1, by omega, by omega, ?_⟩
      simp [Wk, sget, killL, kill1, SV.key, NL, VL, u, e32, tab_succ, ← V_append, V_one]
  · have d0 := hd0 (by omega)
    subst d0
    simp only [Tryz.f202, go_sem]
    refine qif_d (fun h' => ?_) (fun h' => ?_)
    · obtain ⟨p1, p2⟩ := push (hin2 i (by omega))
      have hin := hin2 i (by omega)
      have hyy := hdy (by omega)
      simp only [Tryz.f202, go_sem]
      refine qif_df h ?_
      simp only [Tryz.f202, go_sem]
      refine qif_dt h' ?_
      simp only [Tryz.f202, go_sem]
      refine qand_i (by first | omega | (simp [V_length, U_length, tab_length, maxLen]; done) | (simp [V_length, U_length, tab_length, maxLen]; omega) | (refine ⟨?_, ?_⟩ <;> first | omega | (simp [V_length, U_length, tab_length, maxLen]; done) | (simp [V_length, U_length, tab_length, maxLen]; omega))) ?_; simp only [Tryz.f202, go_sem]
      refine qval_i (congrArg (Option.map _) hyy) ?_
      rw [Nat.add_zero] at e2 p1 p2
      simp only [Tryz.f202, e32, e2, p1, go_sem]
      refine qand_i (by first | omega | (simp [V_length, U_length, tab_length, maxLen]; done) | (simp [V_length, U_length, tab_length, maxLen]; omega) | (refine ⟨?_, ?_⟩ <;> first | omega | (simp [V_length, U_length, tab_length, maxLen]; done) | (simp [V_length, U_length, tab_length, maxLen]; omega))) ?_; simp only [Tryz.f202, hwi, p2, go_sem]
      refine ⟨i + 1, by omega, by omega, ?_⟩
      simp [Wk, sget, killL, kill1, SV.key, NL, VL, u, e32, tab_succ, ← V_append, V_one]
    · have e0 := he0 (by omega)
      subst e0
      simp only [Tryz.f202, go_sem]
      refine qif_d (fun h3 => ?_) (fun h3 => ?_)
      · have hin := hcg (by omega)
        obtain ⟨p1, p2⟩ := push hin
        simp only [Nat.add_zero] at p1 p2
        simp only [Tryz.f202, go_sem]
        refine qif_df h ?_
        simp only [Tryz.f202, go_sem]
        refine qif_df h' ?_
        simp only [Tryz.f202, p1, go_sem]
        refine qand_i (by first | omega | (simp [V_length, U_length, tab_length, maxLen]; done) | (simp [V_length, U_length, tab_length, maxLen]; omega) | (refine ⟨?_, ?_⟩ <;> first | omega | (simp [V_length, U_length, tab_length, maxLen]; done) | (simp [V_length, U_length, tab_length, maxLen]; omega))) ?_; simp only [Tryz.f202, hwi, p2, go_sem]
        refine ⟨i + 1, by omega, by omega, ?_⟩
        simp [Wk, sget, killL, kill1, SV.key, NL, VL, u, e32, tab_succ, ← V_append, V_one]
      · simp only [Tryz.f202, go_sem]
        exact hexit (by omega) (by omega) (by omega)
theorem c_rCmp (x y : Nat) (hx : (dg B x).length ≤ 4194304) (hy : (dg B y).length ≤ 4194304) : PC E 203 [VN x, VN y] (.int .i64 (sgn x y)) := by
  refine PC.of_body follows Tryz.func203 (by decide +kernel) rfl (by kernel_rfl) (Nat.le_of_ble_eq_true rfl) (walk ?_)
  have ox := ok_dg B2 x
  have oy := ok_dg B2 y
  have vx := dv_dg B2 x
  have vy := dv_dg B2 y
  have l1 : (dg B x).length < (dg B y).length → x < y := fun h => by
    have h1 := lt_of_dg (x := x) (i := (dg B x).length) (by omega)
    have h2 := (dg_lt B2 (x := y)).1 h
    omega
  have l2 : (dg B y).length < (dg B x).length → y < x := fun h => by
    have h1 := lt_of_dg (x := y) (i := (dg B y).length) (by omega)
    have h2 := (dg_lt B2 (x := x)).1 h
    omega
  simp only [VN, VL]
  simp only [Tryz.f203, go_sem]
  generalize dg B x = l at *
  generalize dg B y = r at *
  refine qif_d (fun h => ?_) (fun h => ?_)
  · simp only [Tryz.f203, go_sem]
    refine qif_d (fun h' => ?_) (fun h' => ?_)
    · simp only [Tryz.f203, go_sem]
      have := l1 (by omega)
      rw [sgn, if_pos (by omega)]
    · simp only [Tryz.f203, go_sem]
      have := l2 (by omega)
      rw [sgn, if_neg (by omega), if_pos (by omega)]
  · have hll : l.length = r.length := by omega
    have hw1 : ∀ k : Nat, k ≤ l.length → IntKind.wrap .i64 ((k : Int) - 1) = (k : Int) - 1 := fun k hk => wrap64 (by omega) (by omega)
    have hw1' := hw1 l.length (Nat.le_refl _)
    simp only [Tryz.f203, hw1', go_sem]
    refine PLoop.intro (fun k : Nat => ⟨[(0, .val (.lst l.length (V l))), (1, .val (.lst r.length (V r))), (5, .val (.int .i64 ((k : Int) - 1)))], []⟩) (fun k => k ≤ l.length ∧ ∀ j, k ≤ j → j < l.length → l.getD j 0 = r.getD j 0) id l.length ⟨Nat.le_refl _, fun j h1 h2 => by omega⟩ ?_ fun k hk => walk ?_
    · simp [Wk, sget, killL, kill1, SV.key, NL, VL, u, e32]
    obtain ⟨hk, hj⟩ := hk
    simp only [Tryz.f203, go_sem]
    refine qif_d (fun h1 => ?_) (fun h1 => ?_)
    · obtain ⟨k, rfl⟩ : ∃ j, k = j + 1 := ⟨k - 1, by omega⟩
      have hk' : ((k + 1 : Nat) : Int) - 1 = k := by omega
      have hxl := V_getD (l := l) (i := k) (by omega)
      have hxr := V_getD (l := r) (i := k) (by omega)
      have hwk := hw1 k (by omega)
      simp only [Tryz.f203, hk', go_sem]
      refine qand_i (by first | omega | (simp [V_length, U_length, tab_length, maxLen]; done) | (simp [V_length, U_length, tab_length, maxLen]; omega) | (refine ⟨?_, ?_⟩ <;> first | omega | (simp [V_length, U_length, tab_length, maxLen]; done) | (simp [V_length, U_length, tab_length, maxLen]; omega))) ?_; simp only [Tryz.f203, go_sem]
      refine qval_i (congrArg (Option.map _) hxl) ?_
      simp only [Tryz.f203, go_sem]
      refine qand_i (by first | omega | (simp [V_length, U_length, tab_length, maxLen]; done) | (simp [V_length, U_length, tab_length, maxLen]; omega) | (refine ⟨?_, ?_⟩ <;> first | omega | (simp [V_length, U_length, tab_length, maxLen]; done) | (simp [V_length, U_length, tab_length, maxLen]; omega))) ?_; simp only [Tryz.f203, go_sem]
      refine qval_i (congrArg (Option.map _) hxr) ?_
      simp only [Tryz.f203, e32, go_sem]
      refine qif_d (fun h2 => ?_) (fun h2 => ?_)
      · simp only [Tryz.f203, go_sem]
        have := dv_lt_of (b := B) l r k ox hll (by omega) (by omega) fun j h3 h4 => hj j (by omega) h4
        rw [vx, vy] at this
        rw [sgn, if_pos (by omega)]
      · simp only [Tryz.f203, go_sem]
        refine qand_i (by first | omega | (simp [V_length, U_length, tab_length, maxLen]; done) | (simp [V_length, U_length, tab_length, maxLen]; omega) | (refine ⟨?_, ?_⟩ <;> first | omega | (simp [V_length, U_length, tab_length, maxLen]; done) | (simp [V_length, U_length, tab_length, maxLen]; omega))) ?_; simp only [Tryz.f203, go_sem]
        refine qval_i (congrArg (Option.map _) hxl) ?_
        simp only [Tryz.f203, go_sem]
        refine qand_i (by first | omega | (simp [V_length, U_length, tab_length, maxLen]; done) | (simp [V_length, U_length, tab_length, maxLen]; omega) | (refine ⟨?_, ?_⟩ <;> first | omega | (simp [V_length, U_length, tab_length, maxLen]; done) | (simp [V_length, U_length, tab_length, maxLen]; omega))) ?_; simp only [Tryz.f203, go_sem]
        refine qval_i (congrArg (Option.map _) hxr) ?_
        simp only [Tryz.f203, e32, go_sem]
        refine qif_d (fun h3 => ?_) (fun h3 => ?_)
        · simp only [Tryz.f203, go_sem]
          have := dv_lt_of (b := B) r l k oy hll.symm (by omega) (by omega) fun j h3 h4 => (hj j (by omega) (by omega)).symm
          rw [vx, vy] at this
          rw [sgn, if_neg (by omega), if_pos (by omega)]
        · simp only [Tryz.f203, hwk, go_sem]
          refine ⟨k, ⟨by omega, fun j h4 h5 => ?_⟩, by simp only [id]; omega, ?_⟩
          · rcases Nat.eq_or_lt_of_le h4 with rfl | h6
            · omega
            · exact hj j (by omega) h5
          · simp [Wk, sget, killL, kill1, SV.key, NL, VL, u, e32]
    · simp only [Tryz.f203, go_sem]
      have e : x = y := by
        rw [← vx, ← vy]
        exact dv_eq_of l r hll fun i hi => hj i (by omega) hi
      subst e
      simp [sgn]
end
section
open Go PG Go.Proofs
theorem mix_get (x z i : Nat) (h : i < (dg B x).length) : (V (tab B z i ++ (dg B x).drop i))[i]? = some (e32 (x / B ^ i % B)) := by
  rw [V_get, List.getElem?_append_right (by simp [tab_length]), tab_length, Nat.sub_self, List.getElem?_drop, Nat.add_zero, ← V_get, vn_at h]
theorem mix_set {l : List Nat} {z i v : Nat} (h : i < l.length) (hv : v = z / B ^ i % B) : (V (tab B z i ++ l.drop i)).set i (e32 v) = V (tab B z (i + 1) ++ l.drop (i + 1)) := by
  subst hv
  rw [V_set, List.set_append_right _ _ (by simp [tab_length]), tab_length, Nat.sub_self, List.drop_eq_getElem_cons h, List.set_cons_zero, tab_succ]
  simp
theorem c_rSub (x y : Nat) (hyx : y ≤ x) (hx : (dg B x).length ≤ 4194304) : PC E 204 [VN x, VN y] (VN (x - y)) := by
  refine PC.of_body follows Tryz.func204 (by decide +kernel) rfl (by kernel_rfl) (Nat.le_of_ble_eq_true rfl) (walk ?_)
  have hny : (dg B y).length ≤ (dg B x).length := by
    rw [dg_length_le B2]
    exact Nat.lt_of_le_of_lt hyx (lt_of_dg (by omega))
  have hxn : x < B ^ (dg B x).length := lt_of_dg (by omega)
  simp only [VN, VL]
  simp only [Tryz.f204, go_sem]
  refine qand_i (by first | omega | (simp [V_length, U_length, tab_length, maxLen]; done) | (simp [V_length, U_length, tab_length, maxLen]; omega) | (refine ⟨?_, ?_⟩ <;> first | omega | (simp [V_length, U_length, tab_length, maxLen]; done) | (simp [V_length, U_length, tab_length, maxLen]; omega))) ?_; simp only [Tryz.f204, go_sem]
  refine qand_i (by first | omega | (simp [V_length, U_length, tab_length, maxLen]; done) | (simp [V_length, U_length, tab_length, maxLen]; omega) | (refine ⟨?_, ?_⟩ <;> first | omega | (simp [V_length, U_length, tab_length, maxLen]; done) | (simp [V_length, U_length, tab_length, maxLen]; omega))) ?_; simp only [Tryz.f204, go_sem]
  generalize hn : (dg B x).length = n at *
  refine PLoop.intro (fun i : Nat => ⟨[(1, .val (VL (dg B y))), (5, .row 11), (6, .val (e32 (borrow x y (B ^ i)))), (7, .val (.int .i64 i))], [(11, (.row 139 1 n (V (tab B (x - y) i ++ (dg B x).drop i)), false))]⟩) (fun i => i ≤ n) (fun i => n - i) 0 (by omega) ?_ fun i hi => walk ?_
  · simp [Wk, sget, killL, kill1, SV.key, NL, VL, u, e32, tab, V, borrow_one]
  have hB : (B : Nat) = 65536 := rfl
  have hbl := borrow_le x y (B ^ i)
  have hdig := borrow_digit (A := x) (B := y) (W := B) (vn_pow i) hyx B0
  have hnext := borrow_next (A := x) (B := y) (W := B) (vn_pow i)
  rw [← Nat.pow_succ] at hnext
  have hdl : x / B ^ i % B < B := Nat.mod_lt _ B0
  have hel : y / B ^ i % B < B := Nat.mod_lt _ B0
  have hwi : IntKind.wrap .i64 ((i : Int) + 1) = ((i + 1 : Nat) : Int) := by rw [wrap64 (by omega) (by omega)]; omega
  have hdx : i < n → (V (tab B (x - y) i ++ (dg B x).drop i))[i]? = some (e32 (x / B ^ i % B)) := fun h => mix_get x (x - y) i (by omega)
  have hdy : i < (dg B y).length → (V (dg B y))[i]? = some (e32 (y / B ^ i % B)) := fun h => vn_at h
  have he0 : ¬ i < (dg B y).length → y / B ^ i % B = 0 := fun h => dig_zero h
  have hset : ∀ v, i < n → v = (x - y) / B ^ i % B → (V (tab B (x - y) i ++ (dg B x).drop i)).set i (.int .u32 (v : Nat)) = V (tab B (x - y) (i + 1) ++ (dg B x).drop (i + 1)) := fun v h hv => mix_set (by omega) hv
  have hset2 : ∀ v p, i < n → v = (x - y) / B ^ i % B → ((V (tab B (x - y) i ++ (dg B x).drop i)).set i p).set i (.int .u32 (v : Nat)) = V (tab B (x - y) (i + 1) ++ (dg B x).drop (i + 1)) := fun v p h hv => by
    rw [List.set_set]; exact hset v h hv
  have hlen : i < n → (V (tab B (x - y) i ++ (dg B x).drop i)).length = n := fun h => by simp [V_length, tab_length, hn]; omega
  generalize hc : borrow x y (B ^ i) = c at *
  generalize hd : x / B ^ i % B = d at *
  generalize he : y / B ^ i % B = e at *
  have e1 : IntKind.wrap .u32 ((c : Int) + (e : Int)) = ((e + c : Nat) : Int) := by rw [show (c : Int) + (e : Int) = ((e + c : Nat) : Int) by omega]; exact wrap32 (by omega)
  have fin1 : i < n → d < e + c → ∃ v : Nat, v = (x - y) / B ^ i % B ∧ IntKind.wrap .u32 (((d + 65536 : Nat) : Int) - ((e + c : Nat) : Int)) = (v : Int) := fun h hlt => by
    refine ⟨d + 65536 - (e + c), ?_, by rw [show ((d + 65536 : Nat) : Int) - ((e + c : Nat) : Int) = ((d + 65536 - (e + c) : Nat) : Int) by omega]; exact wrap32 (by omega)⟩
    rw [← hdig, show d + B + B - e - c = (d + 65536 - (e + c)) + B by omega, Nat.add_mod_right, Nat.mod_eq_of_lt (by omega)]
  have fin2 : i < n → ¬ d < e + c → ∃ v : Nat, v = (x - y) / B ^ i % B ∧ IntKind.wrap .u32 ((d : Int) - ((e + c : Nat) : Int)) = (v : Int) := fun h hlt => by
    refine ⟨d - (e + c), ?_, by rw [show (d : Int) - ((e + c : Nat) : Int) = ((d - (e + c) : Nat) : Int) by omega]; exact wrap32 (by omega)⟩
    rw [← hdig, show d + B + B - e - c = (d - (e + c)) + B + B by omega, Nat.add_mod_right, Nat.add_mod_right, Nat.mod_eq_of_lt (by omega)]
  have e3 : IntKind.wrap .u32 ((d : Int) + 65536) = ((d + 65536 : Nat) : Int) := by rw [show (d : Int) + 65536 = ((d + 65536 : Nat) : Int) by omega]; exact wrap32 (by omega)
  simp only [e32, VL]
  simp only [Tryz.f204, go_sem]
  refine qif_d (fun h => ?_) (fun h => ?_)
  · have hin : i < n := by omega
    have hxx := hdx hin
    have hlen := hlen hin
    have hgs : ∀ q, ((V (tab B (x - y) i ++ (dg B x).drop i)).set i q)[i]? = some q := fun q => by rw [List.getElem?_set_self (by rw [hlen]; exact hin)]
    simp only [Tryz.f204, go_sem]
    refine qif_d (fun h' => ?_) (fun h' => ?_)
    · have hyy := hdy (by omega)
      simp only [Tryz.f204, go_sem]
      refine qand_i (by first | omega | (simp [V_length, U_length, tab_length, maxLen]; done) | (simp [V_length, U_length, tab_length, maxLen]; omega) | (refine ⟨?_, ?_⟩ <;> first | omega | (simp [V_length, U_length, tab_length, maxLen]; done) | (simp [V_length, U_length, tab_length, maxLen]; omega))) ?_; simp only [Tryz.f204, go_sem]
      refine qval_i (congrArg (Option.map _) hyy) ?_
      simp only [Tryz.f204, e32, e1, go_sem]
      refine qand_i (by first | omega | (simp [V_length, U_length, tab_length, maxLen]; done) | (simp [V_length, U_length, tab_length, maxLen]; omega) | (refine ⟨?_, ?_⟩ <;> first | omega | (simp [V_length, U_length, tab_length, maxLen]; done) | (simp [V_length, U_length, tab_length, maxLen]; omega))) ?_; simp only [Tryz.f204, go_sem]
      refine qval_i (congrArg (Option.map _) hxx) ?_
      simp only [Tryz.f204, e32, e1, go_sem]
      refine qif_d (fun h2 => ?_) (fun h2 => ?_)
      · obtain ⟨v, hv, e4⟩ := fin1 hin (by omega)
        rw [if_pos (by omega)] at hnext
        simp only [Tryz.f204, go_sem]
        refine qand_i (by first | omega | (simp [V_length, U_length, tab_length, maxLen]; done) | (simp [V_length, U_length, tab_length, maxLen]; omega) | (refine ⟨?_, ?_⟩ <;> first | omega | (simp [V_length, U_length, tab_length, maxLen]; done) | (simp [V_length, U_length, tab_length, maxLen]; omega))) ?_; simp only [Tryz.f204, go_sem]
        refine qval_i (congrArg (Option.map _) hxx) ?_
        simp only [Tryz.f204, e32, e3, go_sem]
        refine qand_i (by first | omega | (simp [V_length, U_length, tab_length, maxLen]; done) | (simp [V_length, U_length, tab_length, maxLen]; omega) | (refine ⟨?_, ?_⟩ <;> first | omega | (simp [V_length, U_length, tab_length, maxLen]; done) | (simp [V_length, U_length, tab_length, maxLen]; omega))) ?_; simp only [Tryz.f204, go_sem]
        refine qand_i (by first | omega | (rw [hlen]; omega)) ?_
        simp only [Tryz.f204, hlen, go_sem]
        refine qand_i (by first | omega | (simp [V_length, U_length, tab_length, maxLen]; done) | (simp [V_length, U_length, tab_length, maxLen]; omega) | (refine ⟨?_, ?_⟩ <;> first | omega | (simp [V_length, U_length, tab_length, maxLen]; done) | (simp [V_length, U_length, tab_length, maxLen]; omega))) ?_; simp only [Tryz.f204, hlen, go_sem]
        refine qval_i (congrArg (Option.map _) (hgs _)) ?_
        simp only [Tryz.f204, e32, e4, go_sem]
        refine qand_i (by first | omega | (simp [V_length, U_length, tab_length, maxLen]; done) | (simp [V_length, U_length, tab_length, maxLen]; omega) | (refine ⟨?_, ?_⟩ <;> first | omega | (simp [V_length, U_length, tab_length, maxLen]; done) | (simp [V_length, U_length, tab_length, maxLen]; omega))) ?_; simp only [Tryz.f204, hlen, go_sem]
        refine qand_i (by first | omega | (rw [hlen]; omega)) ?_
        simp only [Tryz.f204, hwi, go_sem]
        refine ⟨i + 1, by omega, by omega, ?_⟩
        rw [hset2 v _ hin hv]
        simp [Wk, sget, killL, kill1, SV.key, NL, VL, u, e32, hnext]
      · obtain ⟨v, hv, e4⟩ := fin2 hin (by omega)
        rw [if_neg (by omega)] at hnext
        simp only [Tryz.f204, go_sem]
        refine qand_i (by first | omega | (simp [V_length, U_length, tab_length, maxLen]; done) | (simp [V_length, U_length, tab_length, maxLen]; omega) | (refine ⟨?_, ?_⟩ <;> first | omega | (simp [V_length, U_length, tab_length, maxLen]; done) | (simp [V_length, U_length, tab_length, maxLen]; omega))) ?_; simp only [Tryz.f204, go_sem]
        refine qval_i (congrArg (Option.map _) hxx) ?_
        simp only [Tryz.f204, e32, e4, go_sem]
        refine qand_i (by first | omega | (simp [V_length, U_length, tab_length, maxLen]; done) | (simp [V_length, U_length, tab_length, maxLen]; omega) | (refine ⟨?_, ?_⟩ <;> first | omega | (simp [V_length, U_length, tab_length, maxLen]; done) | (simp [V_length, U_length, tab_length, maxLen]; omega))) ?_; simp only [Tryz.f204, go_sem]
        refine qand_i (by first | omega | (rw [hlen]; omega)) ?_
        simp only [Tryz.f204, hwi, go_sem]
        refine ⟨i + 1, by omega, by omega, ?_⟩
        rw [hset v hin hv]
        simp [Wk, sget, killL, kill1, SV.key, NL, VL, u, e32, hnext]
    · have e0 := he0 (by omega)
      subst e0
      simp only [Nat.zero_add] at fin1 fin2 hnext
      simp only [Tryz.f204, go_sem]
      refine qand_i (by first | omega | (simp [V_length, U_length, tab_length, maxLen]; done) | (simp [V_length, U_length, tab_length, maxLen]; omega) | (refine ⟨?_, ?_⟩ <;> first | omega | (simp [V_length, U_length, tab_length, maxLen]; done) | (simp [V_length, U_length, tab_length, maxLen]; omega))) ?_; simp only [Tryz.f204, go_sem]
      refine qval_i (congrArg (Option.map _) hxx) ?_
      simp only [Tryz.f204, e32, go_sem]
      refine qif_d (fun h2 => ?_) (fun h2 => ?_)
      · obtain ⟨v, hv, e4⟩ := fin1 hin (by omega)
        rw [if_pos (by omega)] at hnext
        simp only [Tryz.f204, go_sem]
        refine qand_i (by first | omega | (simp [V_length, U_length, tab_length, maxLen]; done) | (simp [V_length, U_length, tab_length, maxLen]; omega) | (refine ⟨?_, ?_⟩ <;> first | omega | (simp [V_length, U_length, tab_length, maxLen]; done) | (simp [V_length, U_length, tab_length, maxLen]; omega))) ?_; simp only [Tryz.f204, go_sem]
        refine qval_i (congrArg (Option.map _) hxx) ?_
        simp only [Tryz.f204, e32, e3, go_sem]
        refine qand_i (by first | omega | (simp [V_length, U_length, tab_length, maxLen]; done) | (simp [V_length, U_length, tab_length, maxLen]; omega) | (refine ⟨?_, ?_⟩ <;> first | omega | (simp [V_length, U_length, tab_length, maxLen]; done) | (simp [V_length, U_length, tab_length, maxLen]; omega))) ?_; simp only [Tryz.f204, go_sem]
        refine qand_i (by first | omega | (rw [hlen]; omega)) ?_
        simp only [Tryz.f204, hlen, go_sem]
        refine qand_i (by first | omega | (simp [V_length, U_length, tab_length, maxLen]; done) | (simp [V_length, U_length, tab_length, maxLen]; omega) | (refine ⟨?_, ?_⟩ <;> first | omega | (simp [V_length, U_length, tab_length, maxLen]; done) | (simp [V_length, U_length, tab_length, maxLen]; omega))) ?_; simp only [Tryz.f204, hlen, go_sem]
        refine qval_i (congrArg (Option.map _) (hgs _)) ?_
        simp only [Tryz.f204, e32, e4, go_sem]
        refine qand_i (by first | omega | (simp [V_length, U_length, tab_length, maxLen]; done) | (simp [V_length, U_length, tab_length, maxLen]; omega) | (refine ⟨?_, ?_⟩ <;> first | omega | (simp [V_length, U_length, tab_length, maxLen]; done) | (simp [V_length, U_length, tab_length, maxLen]; omega))) ?_; simp only [Tryz.f204, hlen, go_sem]
        refine qand_i (by first | omega | (rw [hlen]; omega)) ?_
        simp only [Tryz.f204, hwi, go_sem]
        refine ⟨i + 1, by omega, by omega, ?_⟩
        rw [hset2 v _ hin hv]
        simp [Wk, sget, killL, kill1, SV.key, NL, VL, u, e32, hnext]
      · obtain ⟨v, hv, e4⟩ := fin2 hin (by omega)
        rw [if_neg (by omega)] at hnext
        simp only [Tryz.f204, go_sem]
        refine qand_i (by first | omega | (simp [V_length, U_length, tab_length, maxLen]; done) | (simp [V_length, U_length, tab_length, maxLen]; omega) | (refine ⟨?_, ?_⟩ <;> first | omega | (simp [V_length, U_length, tab_length, maxLen]; done) | (simp [V_length, U_length, tab_length, maxLen]; omega))) ?_; simp only [Tryz.f204, go_sem]
        refine qval_i (congrArg (Option.map _) hxx) ?_
        simp only [Tryz.f204, e32, e4, go_sem]
        refine qand_i (by first | omega | (simp [V_length, U_length, tab_length, maxLen]; done) | (simp [V_length, U_length, tab_length, maxLen]; omega) | (refine ⟨?_, ?_⟩ <;> first | omega | (simp [V_length, U_length, tab_length, maxLen]; done) | (simp [V_length, U_length, tab_length, maxLen]; omega))) ?_; simp only [Tryz.f204, go_sem]
        refine qand_i (by first | omega | (rw [hlen]; omega)) ?_
        simp only [Tryz.f204, hwi, go_sem]
        refine ⟨i + 1, by omega, by omega, ?_⟩
        rw [hset v hin hv]
        simp [Wk, sget, killL, kill1, SV.key, NL, VL, u, e32, hnext]
  · simp only [Tryz.f204, go_sem]
    have e0 : i = n := by omega
    subst e0
    have e1 : (dg B x).drop i = [] := List.drop_eq_nil_of_le (by omega)
    rw [e1, List.append_nil]
    have hlt : x - y < B ^ i := by omega
    refine qcall_i (r := VN (x - y)) (PC.at_vlist (n_Norm (tab B (x - y) i) (by rw [tab_length]; omega) (ok_tab B0 _ _)) (tab_length _ _ _) ((dv_tab _ _).trans (Nat.mod_eq_of_lt hlt))) ?_
    simp only [Tryz.f204, go_sem]
theorem c_rBits (x : Nat) (hx : (dg B x).length ≤ 4194304) : PC E 142 [VN x] (.int .i64 (bitLen x)) := by
  refine PC.of_body follows Tryz.func142 (by decide +kernel) rfl (by kernel_rfl) (Nat.le_of_ble_eq_true rfl) (walk ?_)
  simp only [VN, VL]
  generalize hn : (dg B x).length = n at *
  simp only [Tryz.f142, go_sem]
  refine qif_d (fun h => ?_) (fun h => ?_)
  · simp only [Tryz.f142, go_sem]
    have h0 : x = 0 := by
      have := lt_of_dg (x := x) (i := 0) (by omega)
      rw [Nat.pow_zero] at this
      omega
    subst h0
    rfl
  · obtain ⟨m, rfl⟩ : ∃ m, n = m + 1 := ⟨n - 1, by omega⟩
    have e1 : IntKind.wrap .i64 (((m + 1 : Nat) : Int) - 1) = (m : Int) := by rw [wrap64 (by omega) (by omega)]; omega
    have e2 : IntKind.wrap .i64 (16 * (m : Int)) = ((16 * m : Nat) : Int) := by rw [wrap64 (by omega) (by omega)]; omega
    have hdx : (V (dg B x))[m]? = some (e32 (x / B ^ m % B)) := vn_at (by omega)
    have hbl := bitLen_topB (b := B) (k := 16) (by decide) (by decide) hn
    have hdl : x / B ^ m % B < B := Nat.mod_lt _ B0
    have hb16 : bitLen (x / B ^ m % B) ≤ 16 := (bitLen_le _ 16).2 hdl
    generalize x / B ^ m % B = d at *
    simp only [Tryz.f142, e1, e2, go_sem]
    refine qand_i (by first | omega | (simp [V_length, U_length, tab_length, maxLen]; done) | (simp [V_length, U_length, tab_length, maxLen]; omega) | (refine ⟨?_, ?_⟩ <;> first | omega | (simp [V_length, U_length, tab_length, maxLen]; done) | (simp [V_length, U_length, tab_length, maxLen]; omega))) ?_; simp only [Tryz.f142, e1, e2, go_sem]
    refine qval_i (congrArg (Option.map _) hdx) ?_
    simp only [Tryz.f142, e32, go_sem]
    refine PLoop.intro (fun c : Nat => ⟨[(3, .val (.int .i64 ((16 * m + c : Nat) : Int))), (4, .val (e32 (d / 2 ^ c)))], []⟩) (fun c => c ≤ bitLen d) (fun c => bitLen d - c) 0 (Nat.zero_le _) ?_ fun c hc => walk ?_
    · simp [Wk, sget, killL, kill1, SV.key, NL, VL, u, e32]
    have hlt : 0 < d / 2 ^ c ↔ c < bitLen d := by
      have h1 := bitLen_le d c
      have h2 := Nat.div_pos_iff (a := d) (b := 2 ^ c)
      have h3 := Nat.two_pow_pos c
      omega
    have e3 : IntKind.wrap .i64 (((16 * m + c : Nat) : Int) + 1) = ((16 * m + (c + 1) : Nat) : Int) := by rw [wrap64 (by omega) (by omega)]; omega
    have e4 : IntKind.wrap .u32 (((d / 2 ^ c : Nat) : Int).tdiv 2) = ((d / 2 ^ (c + 1) : Nat) : Int) := by
      rw [show ((d / 2 ^ c : Nat) : Int).tdiv 2 = ((d / 2 ^ c / 2 : Nat) : Int) from n_tdiv _ 2, Nat.div_div_eq_div_mul, ← Nat.pow_succ]
      exact wrap32 (Nat.lt_of_le_of_lt (Nat.div_le_self _ _) (Nat.lt_trans hdl (by decide)))
    simp only [e32]
    simp only [Tryz.f142, go_sem]
    refine qif_d (fun h' => ?_) (fun h' => ?_)
    · simp only [Tryz.f142, e3, e4, go_sem]
      refine ⟨c + 1, by omega, by omega, ?_⟩
      simp [Wk, sget, killL, kill1, SV.key, NL, VL, u, e32]
    · simp only [Tryz.f142, go_sem]
      have : c = bitLen d := by omega
      rw [this, hbl]
theorem c_rBit (x : Nat) (i : Int) (hi : -9223372036854775808 ≤ i ∧ i < 9223372036854775808) (hx : (dg B x).length ≤ 4194304) : PC E 209 [VN x, .int .i64 i] (e32 (if i < 0 then 0 else x / 2 ^ i.toNat % 2)) := by
  refine PC.of_body follows Tryz.func209 (by decide +kernel) rfl (by kernel_rfl) (Nat.le_of_ble_eq_true rfl) (walk ?_)
  simp only [VN, VL]
  generalize hn : (dg B x).length = n at *
  simp only [Tryz.f209, go_sem]
  refine qif_d (fun h => ?_) (fun h => ?_)
  · simp only [Tryz.f209, go_sem]
    rw [if_pos h]
    rfl
  · obtain ⟨k, rfl⟩ : ∃ k : Nat, i = k := ⟨i.toNat, by omega⟩
    have e1 : IntKind.wrap .i64 ((k : Int).tdiv 16) = ((k / 16 : Nat) : Int) := by
      rw [show (k : Int).tdiv 16 = ((k / 16 : Nat) : Int) from n_tdiv _ 16, wrap64 (by omega) (by omega)]
    have e2 : (k : Int).tmod 16 = ((k % 16 : Nat) : Int) := n_tmod _ 16
    rw [if_neg h, Int.toNat_natCast]
    simp only [Tryz.f209, e1, go_sem]
    refine qif_d (fun h' => ?_) (fun h' => ?_)
    · simp only [Tryz.f209, go_sem]
      have hlt : x < B ^ (k / 16) := lt_of_dg (by omega)
      have : x < 2 ^ k := by
        refine Nat.lt_of_lt_of_le hlt ?_
        rw [show B = 2 ^ 16 from rfl, ← Nat.pow_mul]
        exact Nat.pow_le_pow_right (by decide) (by omega)
      rw [Nat.div_eq_of_lt this]
      rfl
    · have hdx : (V (dg B x))[k / 16]? = some (e32 (x / B ^ (k / 16) % B)) := vn_at (by omega)
      have hbd := bit_digit (k := 16) (x := x) (i := k) (by decide)
      have hdl : x / B ^ (k / 16) % B < B := Nat.mod_lt _ B0
      rw [show (2 : Nat) ^ 16 = B from rfl] at hbd
      generalize x / B ^ (k / 16) % B = d at *
      simp only [Tryz.f209, e1, go_sem]
      refine qand_i (by first | omega | (simp [V_length, U_length, tab_length, maxLen]; done) | (simp [V_length, U_length, tab_length, maxLen]; omega) | (refine ⟨?_, ?_⟩ <;> first | omega | (simp [V_length, U_length, tab_length, maxLen]; done) | (simp [V_length, U_length, tab_length, maxLen]; omega))) ?_; simp only [Tryz.f209, e1, go_sem]
      refine qval_i (congrArg (Option.map _) hdx) ?_
      simp only [Tryz.f209, e32, go_sem]
      refine PLoop.intro (fun c : Nat => ⟨[(1, .val (.int .i64 k)), (5, .val (e32 (d / 2 ^ c))), (6, .val (.int .i64 c))], []⟩) (fun c => c ≤ k % 16) (fun c => k % 16 - c) 0 (Nat.zero_le _) ?_ fun c hc => walk ?_
      · simp [Wk, sget, killL, kill1, SV.key, NL, VL, u, e32]
      have e4 : IntKind.wrap .u32 (((d / 2 ^ c : Nat) : Int).tdiv 2) = ((d / 2 ^ (c + 1) : Nat) : Int) := by
        rw [show ((d / 2 ^ c : Nat) : Int).tdiv 2 = ((d / 2 ^ c / 2 : Nat) : Int) from n_tdiv _ 2, Nat.div_div_eq_div_mul, ← Nat.pow_succ]
        exact wrap32 (Nat.lt_of_le_of_lt (Nat.div_le_self _ _) (Nat.lt_trans hdl (by decide)))
      have e5 : IntKind.wrap .i64 ((c : Int) + 1) = ((c + 1 : Nat) : Int) := by rw [wrap64 (by omega) (by omega)]; omega
      have e6 : ((d / 2 ^ c : Nat) : Int).tmod 2 = ((d / 2 ^ c % 2 : Nat) : Int) := n_tmod _ 2
      simp only [e32]
      simp only [Tryz.f209, e2, go_sem]
      refine qif_d (fun h2 => ?_) (fun h2 => ?_)
      · simp only [Tryz.f209, e4, e5, go_sem]
        refine ⟨c + 1, by omega, by omega, ?_⟩
        simp [Wk, sget, killL, kill1, SV.key, NL, VL, u, e32]
      · simp only [Tryz.f209, e6, go_sem]
        have : c = k % 16 := by omega
        rw [this, hbd]
        rfl
theorem B_pow (n : Nat) : B ^ n = 2 ^ (16 * n) := by rw [Nat.pow_mul]
theorem bitLen_digits (x : Nat) : bitLen x ≤ 16 * (dg B x).length := by
  rw [bitLen_le, ← B_pow]
  exact lt_of_dg (by omega)
theorem c_rShr (x : Nat) (n : Int) (hn : -9223372036854775808 ≤ n ∧ n < 9223372036854775808) (hx : (dg B x).length ≤ 4194304) : PC E 210 [VN x, .int .i64 n] (.tuple [VN (x / 2 ^ n.toNat), .bool (decide (x % 2 ^ n.toNat ≠ 0))]) := by
  refine PC.of_body follows Tryz.func210 (by decide +kernel) rfl (by kernel_rfl) (Nat.le_of_ble_eq_true rfl) (walk ?_)
  simp only [Tryz.f210, go_sem]
  refine qif_d (fun h => ?_) (fun h => ?_)
  · obtain ⟨k, hkz⟩ : ∃ k : Nat, 0 = k := ⟨0, rfl⟩
    have hkn : n.toNat = k := by omega
    have hk64 : (k : Int) < 9223372036854775808 := by omega
    rw [hkn]
    simp only [Tryz.f210, go_sem]
    refine qcall_i (c_rBits x (by omega)) ?_
    have hbl : bitLen x ≤ 67108864 := by have := bitLen_digits x; omega
    have hb := bitLen_le x
    have hbt := (bitLen_le x (bitLen x)).1 (Nat.le_refl _)
    have hlen : ∀ z, z ≤ x → (dg B z).length ≤ 4194304 := fun z hz => by
      have h1 : (dg B z).length ≤ (dg B x).length := by
        rw [dg_length_le B2]; exact Nat.lt_of_le_of_lt hz (lt_of_dg (by omega))
      omega
    generalize hL : bitLen x = L at *
    have e1 : IntKind.wrap .i64 ((L : Int) - 1) = (L : Int) - 1 := wrap64 (by omega) (by omega)
    simp only [Tryz.f210, e1, go_sem]
    refine PLoop.nilval 7 rfl ?_
    refine PLoop.intro (fun i : Nat => ⟨[(0, .val (VN x)), (1, .val (.int .i64 k)), (5, .val (.bool false)), (6, .val (.int .i64 L)), (7, .val (VN (x / 2 ^ i))), (8, .val (.int .i64 ((i : Int) - 1)))], []⟩) (fun i => i ≤ L ∧ (k ≤ i ∨ i = L)) id L ⟨Nat.le_refl _, .inr rfl⟩ ?_ fun i hi => walk ?_
    · rw [Nat.div_eq_of_lt hbt]
      simp [Wk, sget, killL, kill1, SV.key, NL, VL, u, e32, VN, dg_zero, V, ← hkz]
    obtain ⟨hi, hki⟩ := hi
    simp only [Tryz.f210, go_sem]
    refine qif_d (fun h1 => ?_) (fun h1 => ?_)
    · obtain ⟨i, rfl⟩ : ∃ j, i = j + 1 := ⟨i - 1, by omega⟩
      have e2 : ((i + 1 : Nat) : Int) - 1 = i := by omega
      have e3 : IntKind.wrap .i64 ((i : Int) - 1) = (i : Int) - 1 := wrap64 (by omega) (by omega)
      have hstep : 2 * (x / 2 ^ (i + 1)) + x / 2 ^ i % 2 = x / 2 ^ i := by
        rw [Nat.pow_succ, ← Nat.div_div_eq_div_mul]; omega
      have hd := c_Double (x / 2 ^ (i + 1)) (x / 2 ^ i % 2) (by omega) (hlen _ (Nat.div_le_self _ _))
      rw [hstep] at hd
      simp only [Tryz.f210, e2, go_sem]
      refine qcall_i (c_rBit x i (by omega) (by omega)) ?_
      rw [if_neg (by omega), Int.toNat_natCast]
      simp only [Tryz.f210, go_sem]
      refine qcall_i hd ?_
      simp only [Tryz.f210, e3, go_sem]
      refine ⟨i, ⟨by omega, by omega⟩, by simp only [id]; omega, ?_⟩
      simp [Wk, sget, killL, kill1, SV.key, NL, VL, u, e32]
    · have hout : x / 2 ^ i = x / 2 ^ k := by
        rcases hki with h2 | h2
        · rw [show i = k by omega]
        · subst h2
          have hLk : i ≤ k := by omega
          rw [Nat.div_eq_of_lt hbt, Nat.div_eq_of_lt ((hb k).1 (by omega))]
      rw [hout]
      simp only [Tryz.f210, go_sem]
      refine PLoop.intro (fun i : Nat => ⟨[(0, .val (VN x)), (1, .val (.int .i64 k)), (6, .val (.int .i64 L)), (7, .val (VN (x / 2 ^ k))), (9, .val (.bool (decide (x % 2 ^ i ≠ 0)))), (10, .val (.int .i64 i))], []⟩) (fun i => i ≤ k ∧ i ≤ L) (fun i => k - i) 0 ⟨Nat.zero_le _, Nat.zero_le _⟩ ?_ fun j hj => walk ?_
      · simp [Wk, sget, killL, kill1, SV.key, NL, VL, u, e32, Nat.mod_one]
      obtain ⟨hj, hjL⟩ := hj
      have hfin : (j = k ∨ j = L) → decide (x % 2 ^ j ≠ 0) = decide (x % 2 ^ k ≠ 0) := fun h2 => by
        rcases h2 with rfl | rfl
        · rfl
        · rw [Nat.mod_eq_of_lt hbt, Nat.mod_eq_of_lt ((hb k).1 (by omega))]
      have hbit : decide (x % 2 ^ (j + 1) ≠ 0) = (decide (x % 2 ^ j ≠ 0) || decide ((x / 2 ^ j % 2 : Nat) = 1)) := by
        rw [Nat.pow_succ, Nat.mod_mul]
        have h3 := Nat.two_pow_pos j
        rw [Bool.eq_iff_iff]
        simp only [decide_eq_true_eq, Bool.or_eq_true]
        have h4 : 2 ^ j * (x / 2 ^ j % 2) = 0 ↔ x / 2 ^ j % 2 = 0 := by
          rw [Nat.mul_eq_zero]; omega
        omega
      have e4 : IntKind.wrap .i64 ((j : Int) + 1) = ((j + 1 : Nat) : Int) := by rw [wrap64 (by omega) (by omega)]; omega
      simp only [Tryz.f210, go_sem]
      refine qif_d (fun h2 => ?_) (fun h2 => ?_)
      · simp only [Tryz.f210, go_sem]
        refine qif_d (fun h3 => ?_) (fun h3 => ?_)
        · simp only [Tryz.f210, go_sem]
          refine qif_i (fun h4 => ?_) (fun h4 => ?_)
          · simp only [Tryz.f210, e4, h4, go_sem]
            refine ⟨j + 1, ⟨by omega, by omega⟩, by omega, ?_⟩
            rw [h4, Bool.true_or] at hbit
            simp [Wk, sget, killL, kill1, SV.key, NL, VL, u, e32, hbit]
          · simp only [Tryz.f210, h4, go_sem]
            refine qcall_i (c_rBit x j (by omega) (by omega)) ?_
            rw [if_neg (by omega), Int.toNat_natCast]
            rw [h4, Bool.false_or] at hbit
            simp only [Tryz.f210, e32, e4, go_sem]
            refine ⟨j + 1, ⟨by omega, by omega⟩, by omega, ?_⟩
            have h5 : decide (((x / 2 ^ j % 2 : Nat) : Int) = 1) = decide (x % 2 ^ (j + 1) ≠ 0) := by
              rw [hbit, decide_eq_decide]; omega
            rw [h5]
            simp [Wk, sget, killL, kill1, SV.key, NL, VL, u, e32]
        · simp only [Tryz.f210, go_sem]
          rw [hfin (by omega)]
      · simp only [Tryz.f210, go_sem]
        rw [hfin (by omega)]
  · obtain ⟨k, rfl⟩ : ∃ k : Nat, n = k := ⟨n.toNat, by omega⟩
    have hkn : (k : Int).toNat = k := by omega
    have hkz : True := trivial
    have hk64 : (k : Int) < 9223372036854775808 := by omega
    rw [hkn]
    simp only [Tryz.f210, go_sem]
    refine qcall_i (c_rBits x (by omega)) ?_
    have hbl : bitLen x ≤ 67108864 := by have := bitLen_digits x; omega
    have hb := bitLen_le x
    have hbt := (bitLen_le x (bitLen x)).1 (Nat.le_refl _)
    have hlen : ∀ z, z ≤ x → (dg B z).length ≤ 4194304 := fun z hz => by
      have h1 : (dg B z).length ≤ (dg B x).length := by
        rw [dg_length_le B2]; exact Nat.lt_of_le_of_lt hz (lt_of_dg (by omega))
      omega
    generalize hL : bitLen x = L at *
    have e1 : IntKind.wrap .i64 ((L : Int) - 1) = (L : Int) - 1 := wrap64 (by omega) (by omega)
    simp only [Tryz.f210, e1, go_sem]
    refine PLoop.nilval 7 rfl ?_
    refine PLoop.intro (fun i : Nat => ⟨[(0, .val (VN x)), (1, .val (.int .i64 k)), (5, .val (.bool false)), (6, .val (.int .i64 L)), (7, .val (VN (x / 2 ^ i))), (8, .val (.int .i64 ((i : Int) - 1)))], []⟩) (fun i => i ≤ L ∧ (k ≤ i ∨ i = L)) id L ⟨Nat.le_refl _, .inr rfl⟩ ?_ fun i hi => walk ?_
    · rw [Nat.div_eq_of_lt hbt]
      simp [Wk, sget, killL, kill1, SV.key, NL, VL, u, e32, VN, dg_zero, V, hkz]
    obtain ⟨hi, hki⟩ := hi
    simp only [Tryz.f210, go_sem]
    refine qif_d (fun h1 => ?_) (fun h1 => ?_)
    · obtain ⟨i, rfl⟩ : ∃ j, i = j + 1 := ⟨i - 1, by omega⟩
      have e2 : ((i + 1 : Nat) : Int) - 1 = i := by omega
      have e3 : IntKind.wrap .i64 ((i : Int) - 1) = (i : Int) - 1 := wrap64 (by omega) (by omega)
      have hstep : 2 * (x / 2 ^ (i + 1)) + x / 2 ^ i % 2 = x / 2 ^ i := by
        rw [Nat.pow_succ, ← Nat.div_div_eq_div_mul]; omega
      have hd := c_Double (x / 2 ^ (i + 1)) (x / 2 ^ i % 2) (by omega) (hlen _ (Nat.div_le_self _ _))
      rw [hstep] at hd
      simp only [Tryz.f210, e2, go_sem]
      refine qcall_i (c_rBit x i (by omega) (by omega)) ?_
      rw [if_neg (by omega), Int.toNat_natCast]
      simp only [Tryz.f210, go_sem]
      refine qcall_i hd ?_
      simp only [Tryz.f210, e3, go_sem]
      refine ⟨i, ⟨by omega, by omega⟩, by simp only [id]; omega, ?_⟩
      simp [Wk, sget, killL, kill1, SV.key, NL, VL, u, e32]
    · have hout : x / 2 ^ i = x / 2 ^ k := by
        rcases hki with h2 | h2
        · rw [show i = k by omega]
        · subst h2
          have hLk : i ≤ k := by omega
          rw [Nat.div_eq_of_lt hbt, Nat.div_eq_of_lt ((hb k).1 (by omega))]
      rw [hout]
      simp only [Tryz.f210, go_sem]
      refine PLoop.intro (fun i : Nat => ⟨[(0, .val (VN x)), (1, .val (.int .i64 k)), (6, .val (.int .i64 L)), (7, .val (VN (x / 2 ^ k))), (9, .val (.bool (decide (x % 2 ^ i ≠ 0)))), (10, .val (.int .i64 i))], []⟩) (fun i => i ≤ k ∧ i ≤ L) (fun i => k - i) 0 ⟨Nat.zero_le _, Nat.zero_le _⟩ ?_ fun j hj => walk ?_
      · simp [Wk, sget, killL, kill1, SV.key, NL, VL, u, e32, Nat.mod_one]
      obtain ⟨hj, hjL⟩ := hj
      have hfin : (j = k ∨ j = L) → decide (x % 2 ^ j ≠ 0) = decide (x % 2 ^ k ≠ 0) := fun h2 => by
        rcases h2 with rfl | rfl
        · rfl
        · rw [Nat.mod_eq_of_lt hbt, Nat.mod_eq_of_lt ((hb k).1 (by omega))]
      have hbit : decide (x % 2 ^ (j + 1) ≠ 0) = (decide (x % 2 ^ j ≠ 0) || decide ((x / 2 ^ j % 2 : Nat) = 1)) := by
        rw [Nat.pow_succ, Nat.mod_mul]
        have h3 := Nat.two_pow_pos j
        rw [Bool.eq_iff_iff]
        simp only [decide_eq_true_eq, Bool.or_eq_true]
        have h4 : 2 ^ j * (x / 2 ^ j % 2) = 0 ↔ x / 2 ^ j % 2 = 0 := by
          rw [Nat.mul_eq_zero]; omega
        omega
      have e4 : IntKind.wrap .i64 ((j : Int) + 1) = ((j + 1 : Nat) : Int) := by rw [wrap64 (by omega) (by omega)]; omega
      simp only [Tryz.f210, go_sem]
      refine qif_d (fun h2 => ?_) (fun h2 => ?_)
      · simp only [Tryz.f210, go_sem]
        refine qif_d (fun h3 => ?_) (fun h3 => ?_)
        · simp only [Tryz.f210, go_sem]
          refine qif_i (fun h4 => ?_) (fun h4 => ?_)
          · simp only [Tryz.f210, e4, h4, go_sem]
            refine ⟨j + 1, ⟨by omega, by omega⟩, by omega, ?_⟩
            rw [h4, Bool.true_or] at hbit
            simp [Wk, sget, killL, kill1, SV.key, NL, VL, u, e32, hbit]
          · simp only [Tryz.f210, h4, go_sem]
            refine qcall_i (c_rBit x j (by omega) (by omega)) ?_
            rw [if_neg (by omega), Int.toNat_natCast]
            rw [h4, Bool.false_or] at hbit
            simp only [Tryz.f210, e32, e4, go_sem]
            refine ⟨j + 1, ⟨by omega, by omega⟩, by omega, ?_⟩
            have h5 : decide (((x / 2 ^ j % 2 : Nat) : Int) = 1) = decide (x % 2 ^ (j + 1) ≠ 0) := by
              rw [hbit, decide_eq_decide]; omega
            rw [h5]
            simp [Wk, sget, killL, kill1, SV.key, NL, VL, u, e32]
        · simp only [Tryz.f210, go_sem]
          rw [hfin (by omega)]
      · simp only [Tryz.f210, go_sem]
        rw [hfin (by omega)]
end
section
open Go PG Go.Proofs
theorem dg_shift {b : Nat} (hb : 2 ≤ b) {x : Nat} (hx : x ≠ 0) : ∀ k, dg b (x * b ^ k) = List.replicate k 0 ++ dg b x
  | 0 => by simp
  | k + 1 => by
    have h1 : x * b ^ (k + 1) = b * (x * b ^ k) := by rw [Nat.pow_succ, ← Nat.mul_assoc, Nat.mul_comm]
    have h2 : x * b ^ (k + 1) ≠ 0 := by
      rw [h1]
      exact Nat.mul_ne_zero (by omega) (Nat.mul_ne_zero hx (Nat.pos_iff_ne_zero.1 (Nat.pow_pos (by omega))))
    rw [dg_pos hb h2, h1, Nat.mul_mod_right, Nat.mul_div_cancel_left _ (by omega), dg_shift hb hx k, List.replicate_succ]
    rfl
theorem dg_len_W (x : Nat) : (dg W x).length = ((dg B x).length + 3) / 4 := by
  have h : ∀ k, (dg W x).length ≤ k ↔ (dg B x).length ≤ 4 * k := fun k => by
    rw [dg_length_le W2, dg_length_le B2, Nat.pow_mul, ← W_B]
  have h1 := h ((dg W x).length)
  have h2 := h (((dg B x).length + 3) / 4)
  omega
theorem dgB_le_of_bits {x n : Nat} (h : bitLen x ≤ 16 * n) : (dg B x).length ≤ n := by
  rw [dg_length_le B2, B_pow]
  exact (bitLen_le _ _).1 h
theorem bits_of_dgB {x n : Nat} (h : (dg B x).length ≤ n) : bitLen x ≤ 16 * n := Nat.le_trans (bitLen_digits x) (by omega)
theorem bitLen_shl (x n : Nat) (hx : x ≠ 0) : bitLen (x * 2 ^ n) = bitLen x + n := by
  have h : ∀ k, bitLen (x * 2 ^ n) ≤ k ↔ bitLen x + n ≤ k := fun k => by
    rw [bitLen_le]
    constructor
    · intro h
      have hn : n ≤ k := by
        refine Nat.le_of_not_lt fun hlt => ?_
        have h1 : 2 ^ k ≤ 2 ^ n := Nat.pow_le_pow_right (by decide) (by omega)
        have h2 : 2 ^ n ≤ x * 2 ^ n := Nat.le_mul_of_pos_left _ (by omega)
        omega
      have : x < 2 ^ (k - n) := by
        rw [show 2 ^ k = 2 ^ (k - n) * 2 ^ n by rw [← Nat.pow_add]; congr 1; omega] at h
        exact Nat.lt_of_mul_lt_mul_right h
      have := (bitLen_le x (k - n)).2 this
      omega
    · intro h
      have : x < 2 ^ (k - n) := (bitLen_le x (k - n)).1 (by omega)
      rw [show 2 ^ k = 2 ^ (k - n) * 2 ^ n by rw [← Nat.pow_add]; congr 1; omega]
      exact Nat.mul_lt_mul_of_pos_right this (Nat.two_pow_pos n)
  have h1 := h (bitLen (x * 2 ^ n))
  have h2 := h (bitLen x + n)
  omega
theorem c_rShl (x n : Nat) (hx : (dg B x).length ≤ 1048576) (hn : n ≤ 16777216) : PC E 201 [VN x, .int .i64 n] (VN (x * 2 ^ n)) := by
  refine PC.of_body follows Tryz.func201 (by decide +kernel) rfl (by kernel_rfl) (Nat.le_of_ble_eq_true rfl) (walk ?_)
  have hbx : bitLen x ≤ 16777216 := Nat.le_trans (bits_of_dgB hx) (by decide)
  have hsmall : ∀ z, bitLen z ≤ 67108864 → (dg B z).length ≤ 4194304 := fun z hz => dgB_le_of_bits (by omega)
  simp only [VN, VL]
  generalize hl : (dg B x).length = l at *
  simp only [Tryz.f201, go_sem]
  refine qif_d (fun h => ?_) (fun h => ?_)
  · simp only [Tryz.f201, go_sem]
    have h0 : x = 0 := by
      have := lt_of_dg (x := x) (i := 0) (by omega)
      rw [Nat.pow_zero] at this
      omega
    subst h0
    rw [Nat.zero_mul]
    rfl
  · have h0 : x ≠ 0 := fun e => by subst e; simp [dg_zero] at hl; omega
    have e1 : IntKind.wrap .i64 ((n : Int).tdiv 16) = ((n / 16 : Nat) : Int) := by
      rw [show (n : Int).tdiv 16 = ((n / 16 : Nat) : Int) from n_tdiv _ 16, wrap64 (by omega) (by omega)]
    have e2 : (n : Int).tmod 16 = ((n % 16 : Nat) : Int) := n_tmod _ 16
    have hsh := dg_shift B2 h0 (n / 16)
    have hlen : (List.replicate (n / 16) (PV.int .u32 0) ++ V (dg B x)) = V (dg B (x * B ^ (n / 16))) := by
      rw [hsh, ← V_append]
      congr 1
      simp [V, e32]
    have hlen2 : (dg B (x * B ^ (n / 16))).length = n / 16 + l := by rw [hsh]; simp [hl]
    have hpow : x * B ^ (n / 16) * 2 ^ (n % 16) = x * 2 ^ n := by
      rw [Nat.mul_assoc, B_pow, ← Nat.pow_add, Nat.div_add_mod]
    have hb2 : bitLen (x * B ^ (n / 16)) ≤ 33554432 := by
      rw [B_pow, bitLen_shl _ _ h0]; omega
    simp only [Tryz.f201, e1, go_sem]
    refine qand_i (by first | omega | (simp [V_length, U_length, tab_length, maxLen]; done) | (simp [V_length, U_length, tab_length, maxLen]; omega) | (refine ⟨?_, ?_⟩ <;> first | omega | (simp [V_length, U_length, tab_length, maxLen]; done) | (simp [V_length, U_length, tab_length, maxLen]; omega))) ?_; simp only [Tryz.f201, go_sem]
    refine qand_i (by first | omega | (simp [V_length, U_length, tab_length, maxLen]; done) | (simp [V_length, U_length, tab_length, maxLen]; omega) | (refine ⟨?_, ?_⟩ <;> first | omega | (simp [V_length, U_length, tab_length, maxLen]; done) | (simp [V_length, U_length, tab_length, maxLen]; omega))) ?_; simp only [Tryz.f201, go_sem]
    refine qand_i ⟨by simp only [maxLen]; omega, by omega⟩ ?_
    simp only [Tryz.f201, hlen, go_sem]
    refine PLoop.frz 5 14 rfl rfl ?_
    refine PLoop.intro (fun i : Nat => ⟨[(1, .val (.int .i64 n)), (5, .val (VN (x * B ^ (n / 16) * 2 ^ i))), (6, .val (.int .i64 i))], []⟩) (fun i => i ≤ n % 16) (fun i => n % 16 - i) 0 (Nat.zero_le _) ?_ fun i hi => walk ?_
    · simp [Wk, sget, killL, kill1, SV.key, NL, VL, u, e32, VN, ← hlen2]
    have e3 : IntKind.wrap .i64 ((i : Int) + 1) = ((i + 1 : Nat) : Int) := by rw [wrap64 (by omega) (by omega)]; omega
    simp only [Tryz.f201, e2, go_sem]
    refine qif_d (fun h2 => ?_) (fun h2 => ?_)
    · have hd := c_Double (x * B ^ (n / 16) * 2 ^ i) 0 (by omega) (hsmall _ (by
        rw [Nat.mul_assoc, B_pow, ← Nat.pow_add, bitLen_shl _ _ h0]; omega))
      rw [show 2 * (x * B ^ (n / 16) * 2 ^ i) + 0 = x * B ^ (n / 16) * 2 ^ (i + 1) by rw [Nat.pow_succ, Nat.add_zero, ← Nat.mul_assoc (x * B ^ (n / 16)), Nat.mul_comm 2]] at hd
      simp only [Tryz.f201, go_sem]
      refine qcall_i hd ?_
      simp only [Tryz.f201, e3, go_sem]
      refine ⟨i + 1, by omega, by omega, ?_⟩
      simp [Wk, sget, killL, kill1, SV.key, NL, VL, u, e32]
    · simp only [Tryz.f201, go_sem]
      rw [show i = n % 16 by omega, hpow]
end
section
open Go PG Go.Proofs
def Num (p : PV) (x : Nat) : Prop := ∃ l, p = NL l ∧ Ok W l ∧ vl l = x ∧ l.length ≤ 1048576
theorem num_NN {x : Nat} (h : (dg W x).length ≤ 1048576) : Num (NN x) x := ⟨_, rfl, ok_dg W2 x, dv_dg W2 x, h⟩
theorem num_NL {l : List Nat} (ol : Ok W l) (h : l.length ≤ 1048576) : Num (NL l) (vl l) := ⟨l, rfl, ol, rfl, h⟩
theorem num_nil : Num (.lst 0 []) 0 := ⟨[], rfl, Ok.nil, rfl, by decide⟩
theorem w_of_bits {x n : Nat} (h : bitLen x ≤ 64 * n) : (dg W x).length ≤ n := by
  rw [dg_len_W]
  have := dgB_le_of_bits (x := x) (n := 4 * n) (by omega)
  omega
theorem num_bits {x : Nat} (h : bitLen x ≤ 1000000) : Num (NN x) x := num_NN (Nat.le_trans (w_of_bits (n := 15625) (by omega)) (by decide))
theorem bitLen_mono {x y : Nat} (h : x ≤ y) : bitLen x ≤ bitLen y := (bitLen_le _ _).2 (Nat.lt_of_le_of_lt h ((bitLen_le y _).1 (Nat.le_refl _)))
theorem bitLen_add {x y n : Nat} (hx : bitLen x ≤ n) (hy : bitLen y ≤ n) : bitLen (x + y) ≤ n + 1 := by
  rw [bitLen_le] at hx hy ⊢
  rw [Nat.pow_succ]
  omega
theorem bitLen_shl_le (x n : Nat) : bitLen (x * 2 ^ n) ≤ bitLen x + n := by
  by_cases h : x = 0
  · subst h; rw [Nat.zero_mul]; exact Nat.le_trans (Nat.le_of_eq (show bitLen 0 = 0 from rfl)) (Nat.zero_le _)
  · rw [bitLen_shl x n h]; exact Nat.le_refl _
theorem k_Bare {p : PV} {x : Nat} (h : Num p x) : PC E 119 [p] (NN x) := by
  obtain ⟨l, rfl, ol, rfl, hl⟩ := h; exact n_Bare l (by omega) ol
theorem k_Small {p : PV} {x : Nat} (h : Num p x) : PC E 64 [p] (.tuple [u (if x < W then x else 0), .bool (decide (x < W))]) := by
  obtain ⟨l, rfl, ol, rfl, hl⟩ := h; exact c_Small l (by omega) ol
theorem k_Add {p q : PV} {x y : Nat} (h : Num p x) (h' : Num q y) : PC E 187 [p, q] (NN (x + y)) := by
  obtain ⟨l, rfl, ol, rfl, hl⟩ := h; obtain ⟨l', rfl, ol', rfl, hl'⟩ := h'; exact c_Add l l' hl hl' ol ol'
theorem k_Cmp {p q : PV} {x y : Nat} (h : Num p x) (h' : Num q y) : PC E 181 [p, q] (.int .i64 (sgn x y)) := by
  obtain ⟨l, rfl, ol, rfl, hl⟩ := h; obtain ⟨l', rfl, ol', rfl, hl'⟩ := h'; exact c_Cmp l l' hl hl' ol ol'
theorem k_Sub_lt {p q : PV} {x y : Nat} (h : Num p x) (h' : Num q y) (hlt : x < y) : PC E 188 [p, q] (.tuple [.lst 0 [], .int .i64 1]) := by
  obtain ⟨l, rfl, ol, rfl, hl⟩ := h; obtain ⟨l', rfl, ol', rfl, hl'⟩ := h'; exact PC.cast (c_Sub l l' hl hl' ol ol') (if_pos hlt)
theorem k_Sub {p q : PV} {x y : Nat} (h : Num p x) (h' : Num q y) (hle : y ≤ x) : PC E 188 [p, q] (.tuple [NN (x - y), .int .i64 0]) := by
  obtain ⟨l, rfl, ol, rfl, hl⟩ := h; obtain ⟨l', rfl, ol', rfl, hl'⟩ := h'; exact PC.cast (c_Sub l l' hl hl' ol ol') (if_neg (by omega))
theorem k_Bits {p : PV} {x : Nat} (h : Num p x) : PC E 61 [p] (.int .i64 (bitLen x)) := by
  obtain ⟨l, rfl, ol, rfl, hl⟩ := h; exact c_Bits l hl ol
theorem k_Odd {p : PV} {x : Nat} (h : Num p x) : PC E 133 [p] (.bool (decide (x % 2 = 1))) := by
  obtain ⟨l, rfl, ol, rfl, hl⟩ := h; exact c_Odd l ol
theorem k_Low {p : PV} {x : Nat} (h : Num p x) : PC E 157 [p] (.int .i64 (tz x)) := by
  obtain ⟨l, rfl, ol, rfl, hl⟩ := h; exact c_Low l hl ol
theorem k_Shr {p : PV} {x : Nat} (h : Num p x) (n : Int) : PC E 158 [p, .int .i64 n] (.tuple [NN (x / 2 ^ n.toNat), .bool (decide (x % 2 ^ n.toNat ≠ 0))]) := by
  obtain ⟨l, rfl, ol, rfl, hl⟩ := h; exact c_Shr l hl ol n
theorem k_Shl {p : PV} {x : Nat} (h : Num p x) (n : Int) (hn : -9223372036854775808 ≤ n) : PC E 63 [p, .int .i64 n] (shlV x n) := by
  obtain ⟨l, rfl, ol, rfl, hl⟩ := h; exact c_Shl l hl ol n hn
theorem k_Shln {p : PV} {x : Nat} (h : Num p x) (n : Nat) (hn : bitLen x + n ≤ 65536) : PC E 63 [p, .int .i64 n] (.tuple [NN (x * 2 ^ n), .int .i64 0]) :=
  PC.cast (k_Shl h n (by omega)) (by
    unfold shlV
    rw [if_neg (by omega)]
    by_cases hx : x = 0
    · rw [if_pos hx]; subst hx; rw [Nat.zero_mul]; rfl
    · rw [if_neg hx, if_neg (by omega), Int.toNat_natCast])
theorem k_Shrn {p : PV} {x : Nat} (h : Num p x) (n : Nat) : PC E 158 [p, .int .i64 n] (.tuple [NN (x / 2 ^ n), .bool (decide (x % 2 ^ n ≠ 0))]) := PC.cast (k_Shr h n) (by rw [Int.toNat_natCast])
theorem k_To {p : PV} {x : Nat} (h : Num p x) : PC E 208 [p] (VN x) := by
  obtain ⟨l, rfl, ol, rfl, hl⟩ := h; exact c_To l hl ol
theorem sgn_self (x : Int) : sgn x x = 0 := by simp [sgn]
theorem sgn_swap (x y : Int) : sgn y x = -sgn x y := by unfold sgn; split <;> split <;> omega
theorem sgn_neg (x y : Int) : sgn x y < 0 ↔ x < y := by unfold sgn; split <;> (try split) <;> omega
theorem sgn_pos (x y : Int) : 0 < sgn x y ↔ y < x := by unfold sgn; split <;> (try split) <;> omega
theorem sgn_zero (x y : Int) : sgn x y = 0 ↔ x = y := by unfold sgn; split <;> (try split) <;> omega
theorem sgn_le (x y : Int) : sgn x y ≤ 0 ↔ x ≤ y := by unfold sgn; split <;> (try split) <;> omega
theorem sgn_range (x y : Int) : -1 ≤ sgn x y ∧ sgn x y ≤ 1 := by unfold sgn; split <;> (try split) <;> omega
end
end
section
section
open Go PG Go.Proofs
structure Dy where
  s : Bool
  m : Nat
  e : Int
  deriving DecidableEq
def Dy.zero : Dy := ⟨false, 0, 0⟩
def DP (s : Bool) (p : PV) (e : Int) : PV := .agg [.bool s, p, .int .i64 e]
def Dy.pv (d : Dy) : PV := DP d.s (NN d.m) d.e
def Dy.nv (d : Dy) : PV := DP d.s (VN d.m) d.e
def cut (e : Int) : Int := if e < -2147483648 then -2147483648 else if 2147483648 < e then 2147483648 else e
theorem cut_le (e : Int) : -2147483648 ≤ cut e ∧ cut e ≤ 2147483648 := by unfold cut; split <;> (try split) <;> omega
theorem cut_id {e : Int} (h1 : -2147483648 ≤ e) (h2 : e ≤ 2147483648) : cut e = e := by unfold cut; rw [if_neg (by omega), if_neg (by omega)]
def mkD (s : Bool) (x : Nat) (e : Int) : Dy := if x = 0 then .zero else ⟨s, x / 2 ^ tz x, cut e + tz x⟩
theorem c_cut (e : Int) : PC E 159 [.int .i64 e] (.int .i64 (cut e)) := by
  refine PC.of_body follows Tryz.func159 (by decide +kernel) rfl (by kernel_rfl) (Nat.le_of_ble_eq_true rfl) (walk ?_)
  simp only [Tryz.f159, go_sem]
  unfold cut
  split <;> (try split) <;> omega
theorem c_rcut (e : Int) : PC E 211 [.int .i64 e] (.int .i64 (cut e)) := by
  refine PC.of_body follows Tryz.func211 (by decide +kernel) rfl (by kernel_rfl) (Nat.le_of_ble_eq_true rfl) (walk ?_)
  simp only [Tryz.f211, go_sem]
  refine qif_d (fun h => ?_) (fun h => ?_)
  · simp only [Tryz.f211, go_sem]
    unfold cut
    rw [if_neg (by omega), if_pos (by omega)]
  · simp only [Tryz.f211, go_sem]
    refine qif_d (fun h2 => ?_) (fun h2 => ?_)
    · simp only [Tryz.f211, go_sem]
      unfold cut
      rw [if_pos (by omega)]
    · simp only [Tryz.f211, go_sem]
      rw [cut_id (by omega) (by omega)]
theorem tz_bits {x : Nat} (h : x ≠ 0) : tz x < bitLen x := by
  obtain ⟨m, hm⟩ := tz_spec h
  rcases Nat.lt_or_ge (tz x) (bitLen x) with h1 | h1
  · exact h1
  · have h2 := (bitLen_le x _).1 h1
    generalize tz x = t at *
    have : 2 ^ t * 1 ≤ 2 ^ t * (2 * m + 1) := Nat.mul_le_mul_left _ (by omega)
    omega
theorem dg_nil {x : Nat} (h : (dg W x).length = 0) : x = 0 := by
  have := dv_dg W2 x
  rw [List.length_eq_zero_iff.1 h] at this
  exact this.symm
theorem c_bare {p : PV} {x : Nat} (hp : Num p x) (hb : bitLen x ≤ 1000000) (s : Bool) (e : Int) : PC E 97 [DP s p e] (mkD s x e).pv := by
  refine PC.of_body follows Tryz.func97 (by decide +kernel) rfl (by kernel_rfl) (Nat.le_of_ble_eq_true rfl) (walk ?_)
  simp only [DP]
  have cl := cut_le e
  simp only [Tryz.f97, go_sem]
  refine qcall_i (k_Bare hp) ?_; simp only [Tryz.f97, NN, NL, go_sem]
  by_cases hx : x = 0
  · subst hx
    refine qif_dt rfl ?_
    simp only [Tryz.f97, go_sem]
    rfl
  · refine qif_df (fun h => hx (dg_nil (by omega))) ?_
    have := tz_bits hx
    have e1 : IntKind.wrap .i64 (cut e + (tz x : Int)) = cut e + (tz x : Int) := wrap64 (by omega) (by omega)
    simp only [Tryz.f97, go_sem]
    refine qcall_i (k_Low (num_bits (x := x) hb)) ?_; simp only [Tryz.f97, go_sem]
    refine qcall_i (k_Shrn (num_bits (x := x) hb) (tz x)) ?_; simp only [Tryz.f97, go_sem]
    refine qcall_i (c_cut e) ?_; simp only [Tryz.f97, e1, NN, NL, go_sem]
    rw [mkD, if_neg hx]
    rfl
def Dy.fits (d : Dy) : Prop := -1073741824 ≤ d.e ∧ d.e ≤ 1073741824
instance (d : Dy) : Decidable d.fits := inferInstanceAs (Decidable (_ ∧ _))
theorem c_DBare {p : PV} {x : Nat} (hp : Num p x) (hb : bitLen x ≤ 1000000) (s : Bool) (e : Int) :
    PC E 62 [DP s p e] (if (mkD s x e).fits then .tuple [(mkD s x e).pv, .int .i64 0] else .tuple [Dy.zero.pv, .int .i64 2]) := by
  refine PC.of_body follows Tryz.func62 (by decide +kernel) rfl (by kernel_rfl) (Nat.le_of_ble_eq_true rfl) (walk ?_)
  simp only [DP]
  simp only [Tryz.f62, go_sem]
  refine qcall_i (c_bare hp hb s e) ?_; simp only [Tryz.f62, Dy.pv, DP, NN, NL, go_sem]
  generalize mkD s x e = d
  refine qif_d (fun h => ?_) (fun h => ?_)
  · simp only [Tryz.f62, go_sem]
    rw [if_neg (fun h2 => by have := h2.1; omega)]; rfl
  · simp only [Tryz.f62, go_sem]
    refine qif_d (fun h1 => ?_) (fun h1 => ?_)
    · simp only [Tryz.f62, go_sem]
      rw [if_neg (fun h2 => by have := h2.2; omega)]; rfl
    · simp only [Tryz.f62, go_sem]
      rw [if_pos ⟨by omega, by omega⟩]; rfl
theorem c_Make {p : PV} {x : Nat} (hp : Num p x) (hb : bitLen x ≤ 1000000) (s : Bool) (e : Int) :
    PC E 60 [.bool s, p, .int .i64 e] (if (mkD s x e).fits then .tuple [(mkD s x e).pv, .int .i64 0] else .tuple [Dy.zero.pv, .int .i64 2]) := by
  refine PC.of_body follows Tryz.func60 (by decide +kernel) rfl (by kernel_rfl) (Nat.le_of_ble_eq_true rfl) (walk ?_)
  have h := c_DBare hp hb s e
  obtain ⟨l, rfl, ol, rfl, hl⟩ := hp
  simp only [DP, NL] at h ⊢
  generalize mkD s (vl l) e = d at h ⊢
  split at h
  · simp only [Tryz.f60, go_sem]
    refine qcall_i (h) ?_; simp only [Tryz.f60, Dy.pv, DP, NN, NL, go_sem]
    rw [if_pos ‹_›]
  · simp only [Tryz.f60, go_sem]
    refine qcall_i (h) ?_; simp only [Tryz.f60, Dy.pv, DP, NN, NL, go_sem]
    rw [if_neg ‹_›]
theorem mkD_bits (s : Bool) (x : Nat) (e : Int) : bitLen (mkD s x e).m ≤ bitLen x := by
  unfold mkD
  split
  · exact Nat.zero_le _
  · exact bitLen_mono (Nat.div_le_self _ _)
def Dy.top (d : Dy) : Int := if d.m = 0 then 0 else bitLen d.m - 1 + d.e
theorem mkD_range (s : Bool) (x : Nat) (e : Int) (hb : bitLen x ≤ 1000000) : -2147483648 ≤ (mkD s x e).e ∧ (mkD s x e).e ≤ 2148483648 := by
  unfold mkD
  have := cut_le e
  split
  · exact ⟨by decide, by decide⟩
  · rename_i h
    have := tz_bits h
    show -2147483648 ≤ cut e + tz x ∧ cut e + tz x ≤ 2148483648
    omega
theorem c_Top {p : PV} {x : Nat} (hp : Num p x) (hb : bitLen x ≤ 1000000) (s : Bool) (e : Int) :
    PC E 68 [DP s p e] (.tuple [.int .i64 (mkD s x e).top, .bool (decide (x ≠ 0))]) := by
  refine PC.of_body follows Tryz.func68 (by decide +kernel) rfl (by kernel_rfl) (Nat.le_of_ble_eq_true rfl) (walk ?_)
  simp only [DP]
  have b1 := mkD_bits s x e
  have b2 := mkD_range s x e hb
  have b3 : x = 0 ↔ (mkD s x e).m = 0 := by
    constructor
    · intro h; subst h; rfl
    · intro h
      refine Decidable.byContradiction fun hx => ?_
      rw [mkD, if_neg hx] at h
      obtain ⟨m, hm⟩ := tz_spec hx
      have : x / 2 ^ tz x = 2 * m + 1 := Nat.div_eq_of_eq_mul_right (Nat.two_pow_pos _) hm
      have h' : x / 2 ^ tz x = 0 := h
      omega
  simp only [Tryz.f68, go_sem]
  refine qcall_i (c_bare hp hb s e) ?_; simp only [Tryz.f68, Dy.pv, DP, NN, NL, go_sem]
  generalize mkD s x e = d at *
  unfold Dy.top
  by_cases hx : x = 0
  · have hm := b3.1 hx
    refine qif_dt (by rw [hm]; rfl) ?_
    simp only [Tryz.f68, go_sem]
    rw [if_pos hm, decide_eq_false (by simpa using hx)]
    exact ⟨rfl, rfl⟩
  · have hm : d.m ≠ 0 := fun h => hx (b3.2 h)
    refine qif_df (fun h => hm (dg_nil (by omega))) ?_
    have hbp := bitLen_pos hm
    have e1 : IntKind.wrap .i64 ((bitLen d.m : Int) - 1) = bitLen d.m - 1 := wrap64 (by omega) (by omega)
    have e2 : IntKind.wrap .i64 ((bitLen d.m : Int) - 1 + d.e) = bitLen d.m - 1 + d.e := wrap64 (by omega) (by omega)
    simp only [Tryz.f68, go_sem]
    refine qcall_i (k_Bits (num_bits (x := d.m) (by omega))) ?_; simp only [Tryz.f68, e1, e2, go_sem]
    rw [if_neg hm, decide_eq_true hx]
    exact ⟨rfl, rfl⟩
theorem c_Sign {p : PV} {x : Nat} (hp : Num p x) (s : Bool) (e : Int) :
    PC E 21 [DP s p e] (.int .i64 (if x = 0 then 0 else if s = true then -1 else 1)) := by
  refine PC.of_body follows Tryz.func21 (by decide +kernel) rfl (by kernel_rfl) (Nat.le_of_ble_eq_true rfl) (walk ?_)
  obtain ⟨l, rfl, ol, rfl, hl⟩ := hp
  simp only [DP, NL]
  simp only [Tryz.f21, go_sem]
  refine qcall_i (k_Bits (num_NL ol hl)) ?_; simp only [Tryz.f21, go_sem]
  by_cases hx : vl l = 0
  · refine qif_dt (by rw [hx]; rfl) ?_
    simp only [Tryz.f21, go_sem]
    rw [if_pos hx]
  · have := bitLen_pos hx
    refine qif_df (by omega) ?_
    simp only [Tryz.f21, go_sem]
    rw [if_neg hx]
    cases s
    · simp only [Tryz.f21, go_sem]
    · simp only [Tryz.f21, go_sem]
end
section
open Go PG Go.Proofs
theorem dgB_nil {x : Nat} (h : (dg B x).length = 0) : x = 0 := by
  have := dv_dg B2 x
  rw [List.length_eq_zero_iff.1 h] at this
  exact this.symm
theorem tz_step {x i : Nat} (h0 : x ≠ 0) (hz : x % 2 ^ i = 0) : (x / 2 ^ i % 2 = 0 → x % 2 ^ (i + 1) = 0 ∧ i < tz x) ∧ (x / 2 ^ i % 2 ≠ 0 → tz x = i) := by
  constructor
  · intro h
    refine ⟨by rw [Nat.pow_succ, Nat.mod_mul, hz, h, Nat.mul_zero], ?_⟩
    have := tz_lt (x := x) (n := i + 1) h0
    rw [Nat.pow_succ, Nat.mod_mul, hz, h, Nat.mul_zero] at this
    omega
  · intro h
    exact tz_of (m := x / 2 ^ i / 2) (by
      have := Nat.mod_add_div x (2 ^ i)
      rw [hz, Nat.zero_add] at this
      rw [show 2 * (x / 2 ^ i / 2) + 1 = x / 2 ^ i by omega]
      exact this.symm)
theorem c_5Of {p : PV} {x : Nat} (hp : Num p x) (hb : bitLen x ≤ 1000000) (s : Bool) (e : Int) : PC E 146 [DP s p e] (mkD s x e).nv := by
  refine PC.of_body follows Tryz.func146 (by decide +kernel) rfl (by kernel_rfl) (Nat.le_of_ble_eq_true rfl) (walk ?_)
  have cl := cut_le e
  have hB : (dg B x).length ≤ 4194304 := Nat.le_trans (dgB_le_of_bits (n := 62500) (by omega)) (by decide)
  have hto := k_To hp
  clear hp
  simp only [DP]
  simp only [Tryz.f146, go_sem]
  refine qcall_i (hto) ?_; simp only [Tryz.f146, VN, VL, go_sem]
  by_cases hx : x = 0
  · subst hx
    refine qif_dt rfl ?_
    simp only [Tryz.f146, go_sem]
    rfl
  · refine qif_df (fun h => hx (dgB_nil (by omega))) ?_
    have hlt := tz_bits hx
    have e1 : IntKind.wrap .i64 (cut e + (tz x : Int)) = cut e + (tz x : Int) := wrap64 (by omega) (by omega)
    have hs0 : bitLen (x / 2 ^ tz x) ≤ bitLen x := bitLen_mono (Nat.div_le_self _ _)
    simp only [Tryz.f146, go_sem]
    refine PLoop.intro (fun i : Nat => ⟨[(1, .ptr 1 0), (2, .ptr 2 0), (3, .val (VN x)), (4, .val (.int .i64 i))], [(1, (.box [.bool s, p, .int .i64 e], false)), (2, (.box [.bool false, .lst 0 [], .int .i64 0], false))]⟩) (fun i => i ≤ tz x ∧ x % 2 ^ i = 0) (fun i => bitLen x - i) 0 ⟨Nat.zero_le _, by simp [Nat.mod_one]⟩ ?_ fun i hi => walk ?_
    · simp [Wk, sget, killL, kill1, SV.key, NL, VL, u, e32, VN, VL]
    obtain ⟨hi, hz⟩ := hi
    have hst := tz_step hx hz
    have e4 : IntKind.wrap .i64 ((i : Int) + 1) = ((i + 1 : Nat) : Int) := by rw [wrap64 (by omega) (by omega)]; omega
    simp only [Tryz.f146, go_sem]
    refine qcall_i (c_rBit x i (by omega) hB) ?_
    rw [if_neg (by omega), Int.toNat_natCast]
    simp only [Tryz.f146, e32, go_sem]
    refine qif_d (fun h2 => ?_) (fun h2 => ?_)
    · simp only [Tryz.f146, e4, go_sem]
      have h3 := hst.1 (by omega)
      refine ⟨i + 1, ⟨by omega, h3.1⟩, by omega, ?_⟩
      simp [Wk, sget, killL, kill1, SV.key, NL, VL, u, e32]
    · have htz : tz x = i := hst.2 (by omega)
      simp only [Tryz.f146, go_sem]
      refine qcall_i (c_rShr x i (by omega) hB) ?_; simp only [Tryz.f146, go_sem]
      refine qcall_i (c_rcut e) ?_; simp only [Tryz.f146, VN, VL, go_sem]
      rw [mkD, if_neg hx, ← htz, e1]
      rfl
def Dy.sg (d : Dy) : Int := if d.m = 0 then 0 else if d.s = true then -1 else 1
def Dy.at (d : Dy) (k : Int) : Int := (if d.s = true then -1 else 1) * ((d.m * 2 ^ (d.e - k).toNat : Nat) : Int)
def cmpD (a b : Dy) : Int := sgn (a.at (min a.e b.e)) (b.at (min a.e b.e))
theorem at_sg (d : Dy) (k : Int) : (d.at k = 0 ↔ d.sg = 0) ∧ (0 < d.at k ↔ d.sg = 1) ∧ (d.at k < 0 ↔ d.sg = -1) := by
  unfold Dy.at Dy.sg
  by_cases h : d.m = 0
  · rw [if_pos h, h, Nat.zero_mul]
    cases d.s <;> simp
  · rw [if_neg h]
    have : 0 < d.m * 2 ^ (d.e - k).toNat := Nat.mul_pos (by omega) (Nat.two_pow_pos _)
    generalize d.m * 2 ^ (d.e - k).toNat = n at *
    cases d.s <;> simp <;> omega
theorem sg_range (d : Dy) : d.sg = 0 ∨ d.sg = 1 ∨ d.sg = -1 := by
  unfold Dy.sg; split
  · exact .inl rfl
  · split
    · exact .inr (.inr rfl)
    · exact .inr (.inl rfl)
theorem cmpD_sg {a b : Dy} (h : a.sg ≠ b.sg ∨ a.sg = 0) : cmpD a b = sgn a.sg b.sg := by
  unfold cmpD
  have h1 := at_sg a (min a.e b.e)
  have h2 := at_sg b (min a.e b.e)
  have r1 := sg_range a
  have r2 := sg_range b
  generalize a.at (min a.e b.e) = x at *
  generalize b.at (min a.e b.e) = y at *
  generalize a.sg = v at *
  generalize b.sg = w at *
  unfold sgn
  repeat' split
  all_goals omega
theorem at_bits (d : Dy) (k : Int) (hk : k ≤ d.e) (h : d.m ≠ 0) : (bitLen (d.m * 2 ^ (d.e - k).toNat) : Int) = d.top + 1 - k := by
  rw [bitLen_shl _ _ h, Dy.top, if_neg h]
  omega
theorem bits_lt {x y : Nat} (h : bitLen x < bitLen y) : x < y := by
  rcases Nat.lt_or_ge x y with h1 | h1
  · exact h1
  · have := bitLen_mono h1; omega
theorem cmpD_top {a b : Dy} (ha : a.m ≠ 0) (hb : b.m ≠ 0) (hs : a.s = b.s) (ht : a.top ≠ b.top) : cmpD a b = if (decide (a.top < b.top)) != a.s then -1 else 1 := by
  unfold cmpD Dy.at
  have h1 := at_bits a (min a.e b.e) (by omega) ha
  have h2 := at_bits b (min a.e b.e) (by omega) hb
  generalize a.m * 2 ^ (a.e - min a.e b.e).toNat = x at *
  generalize b.m * 2 ^ (b.e - min a.e b.e).toNat = y at *
  rw [← hs]
  by_cases hlt : a.top < b.top
  · have h3 : x < y := bits_lt (by omega)
    rw [decide_eq_true hlt]
    cases a.s
    · simp [sgn]; omega
    · simp [sgn]; omega
  · have h3 : y < x := bits_lt (by omega)
    rw [decide_eq_false hlt]
    cases a.s
    · simp [sgn]; omega
    · simp [sgn]; omega
def addD (a b : Dy) : Dy :=
  if a.m = 0 then b else if b.m = 0 then a else
  if a.s = b.s then ⟨a.s, a.m * 2 ^ (a.e - min a.e b.e).toNat + b.m * 2 ^ (b.e - min a.e b.e).toNat, min a.e b.e⟩
  else if b.m * 2 ^ (b.e - min a.e b.e).toNat ≤ a.m * 2 ^ (a.e - min a.e b.e).toNat then ⟨a.s, a.m * 2 ^ (a.e - min a.e b.e).toNat - b.m * 2 ^ (b.e - min a.e b.e).toNat, min a.e b.e⟩
  else ⟨b.s, b.m * 2 ^ (b.e - min a.e b.e).toNat - a.m * 2 ^ (a.e - min a.e b.e).toNat, min a.e b.e⟩
theorem vn_bits {x : Nat} (h : bitLen x ≤ 16000000) : (dg B x).length ≤ 1048576 := Nat.le_trans (dgB_le_of_bits (n := 1000000) (by omega)) (by decide)
theorem c_5Sign (d : Dy) : PC E 206 [d.nv] (.int .i64 d.sg) := by
  refine PC.of_body follows Tryz.func206 (by decide +kernel) rfl (by kernel_rfl) (Nat.le_of_ble_eq_true rfl) (walk ?_)
  simp only [Dy.nv, DP, VN, VL]
  unfold Dy.sg
  simp only [Tryz.f206, go_sem]
  by_cases hx : d.m = 0
  · refine qif_dt (by rw [hx]; rfl) ?_
    simp only [Tryz.f206, go_sem]
    rw [if_pos hx]
  · refine qif_df (fun h => hx (dgB_nil (by omega))) ?_
    simp only [Tryz.f206, go_sem]
    rw [if_neg hx]
    cases d.s
    · simp only [Tryz.f206, go_sem]
    · simp only [Tryz.f206, go_sem]
theorem c_5Top (d : Dy) (h : d.m ≠ 0) (hb : bitLen d.m ≤ 1000000) (h1 : -1000000000000 ≤ d.e) (h2 : d.e ≤ 1000000000000) : PC E 138 [d.nv] (.int .i64 d.top) := by
  refine PC.of_body follows Tryz.func138 (by decide +kernel) rfl (by kernel_rfl) (Nat.le_of_ble_eq_true rfl) (walk ?_)
  simp only [Dy.nv, DP]
  have hp := bitLen_pos h
  have e1 : IntKind.wrap .i64 ((bitLen d.m : Int) - 1) = bitLen d.m - 1 := wrap64 (by omega) (by omega)
  have e2 : IntKind.wrap .i64 ((bitLen d.m : Int) - 1 + d.e) = bitLen d.m - 1 + d.e := wrap64 (by omega) (by omega)
  have hB := vn_bits (x := d.m) (by omega)
  simp only [Tryz.f138, go_sem]
  refine qcall_i (c_rBits d.m (by omega)) ?_; simp only [Tryz.f138, e1, e2, go_sem]
  rw [Dy.top, if_neg h]
theorem c_5Add (a b : Dy) (ha : bitLen a.m ≤ 1000000) (hb : bitLen b.m ≤ 1000000) (h1 : -1000000000000 ≤ a.e ∧ a.e ≤ 1000000000000) (h2 : -1000000000000 ≤ b.e ∧ b.e ≤ 1000000000000)
    (hn : a.m ≠ 0 → b.m ≠ 0 → a.e - b.e ≤ 1000000 ∧ b.e - a.e ≤ 1000000) : PC E 141 [a.nv, b.nv] (addD a b).nv := by
  refine PC.of_body follows Tryz.func141 (by decide +kernel) rfl (by kernel_rfl) (Nat.le_of_ble_eq_true rfl) (walk ?_)
  unfold addD
  simp only [Dy.nv, DP, VN, VL]
  simp only [Tryz.f141, go_sem]
  by_cases hx : a.m = 0
  · refine qif_dt (by rw [hx]; rfl) ?_
    simp only [Tryz.f141, go_sem]
    rw [if_pos hx]; rfl
  refine qif_df (fun h => hx (dgB_nil (by omega))) ?_
  simp only [Tryz.f141, go_sem]
  by_cases hy : b.m = 0
  · refine qif_dt (by rw [hy]; rfl) ?_
    simp only [Tryz.f141, go_sem]
    rw [if_neg hx, if_pos hy]; rfl
  refine qif_df (fun h => hy (dgB_nil (by omega))) ?_
  rw [if_neg hx, if_neg hy]
  have hn' := hn hx hy
  have s1 := bitLen_shl_le a.m (a.e - min a.e b.e).toNat
  have s2 := bitLen_shl_le b.m (b.e - min a.e b.e).toNat
  have e1 : IntKind.wrap .i64 (a.e - min a.e b.e) = ((a.e - min a.e b.e).toNat : Int) := by rw [wrap64 (by omega) (by omega)]; omega
  have e2 : IntKind.wrap .i64 (b.e - min a.e b.e) = ((b.e - min a.e b.e).toNat : Int) := by rw [wrap64 (by omega) (by omega)]; omega
  have k1 := c_rShl a.m (a.e - min a.e b.e).toNat (vn_bits (by omega)) (by omega)
  have k2 := c_rShl b.m (b.e - min a.e b.e).toNat (vn_bits (by omega)) (by omega)
  generalize hx' : a.m * 2 ^ (a.e - min a.e b.e).toNat = x at *
  generalize hy' : b.m * 2 ^ (b.e - min a.e b.e).toNat = y at *
  have b1 := vn_bits (x := x) (by omega)
  have b2 := vn_bits (x := y) (by omega)
  have k3 := c_rAdd x y (by omega) (by omega)
  have k4 := c_rCmp x y (by omega) (by omega)
  simp only [Tryz.f141, go_sem]
  by_cases hlt : b.e < a.e
  · refine qif_dt hlt ?_
    rw [show min a.e b.e = b.e by omega] at *
    simp only [Tryz.f141, e1, e2, go_sem]
    refine qcall_i (k1) ?_; simp only [Tryz.f141, e1, e2, go_sem]
    refine qcall_i (k2) ?_; simp only [Tryz.f141, VN, VL, go_sem]
    by_cases hs : a.s = b.s
    · have h6 : (a.s == b.s) = true := by rw [hs]; exact beq_self_eq_true _
      rw [if_pos hs]
      simp only [Tryz.f141, h6, go_sem]
      refine qcall_i (k3) ?_; simp only [Tryz.f141, VN, VL, go_sem]
      rfl
    · have h6 : (a.s == b.s) = false := by simpa using hs
      rw [if_neg hs]
      simp only [Tryz.f141, h6, go_sem]
      refine qcall_i (k4) ?_; simp only [Tryz.f141, go_sem]
      by_cases hxy : y ≤ x
      · refine qif_dt (by have := sgn_neg x y; omega) ?_
        rw [if_pos hxy]
        simp only [Tryz.f141, go_sem]
        refine qcall_i (c_rSub x y hxy (by omega)) ?_; simp only [Tryz.f141, VN, VL, go_sem]
        rfl
      · refine qif_df (by have := (sgn_neg x y).2 (by omega); omega) ?_
        rw [if_neg hxy]
        simp only [Tryz.f141, go_sem]
        refine qcall_i (c_rSub y x (by omega) (by omega)) ?_; simp only [Tryz.f141, VN, VL, go_sem]
        rfl
  · refine qif_df hlt ?_
    rw [show min a.e b.e = a.e by omega] at *
    simp only [Tryz.f141, e1, e2, go_sem]
    refine qcall_i (k1) ?_; simp only [Tryz.f141, e1, e2, go_sem]
    refine qcall_i (k2) ?_; simp only [Tryz.f141, VN, VL, go_sem]
    by_cases hs : a.s = b.s
    · have h6 : (a.s == b.s) = true := by rw [hs]; exact beq_self_eq_true _
      rw [if_pos hs]
      simp only [Tryz.f141, h6, go_sem]
      refine qcall_i (k3) ?_; simp only [Tryz.f141, VN, VL, go_sem]
      rfl
    · have h6 : (a.s == b.s) = false := by simpa using hs
      rw [if_neg hs]
      simp only [Tryz.f141, h6, go_sem]
      refine qcall_i (k4) ?_; simp only [Tryz.f141, go_sem]
      by_cases hxy : y ≤ x
      · refine qif_dt (by have := sgn_neg x y; omega) ?_
        rw [if_pos hxy]
        simp only [Tryz.f141, go_sem]
        refine qcall_i (c_rSub x y hxy (by omega)) ?_; simp only [Tryz.f141, VN, VL, go_sem]
        rfl
      · refine qif_df (by have := (sgn_neg x y).2 (by omega); omega) ?_
        rw [if_neg hxy]
        simp only [Tryz.f141, go_sem]
        refine qcall_i (c_rSub y x (by omega) (by omega)) ?_; simp only [Tryz.f141, VN, VL, go_sem]
        rfl
theorem c_5Cmp (a b : Dy) (ha : bitLen a.m ≤ 1000000) (hb : bitLen b.m ≤ 1000000) (h1 : -1000000000000 ≤ a.e ∧ a.e ≤ 1000000000000) (h2 : -1000000000000 ≤ b.e ∧ b.e ≤ 1000000000000)
    (hn : a.m ≠ 0 → b.m ≠ 0 → a.top = b.top → a.e - b.e ≤ 1000000 ∧ b.e - a.e ≤ 1000000) : PC E 144 [a.nv, b.nv] (.int .i64 (cmpD a b)) := by
  refine PC.of_body follows Tryz.func144 (by decide +kernel) rfl (by kernel_rfl) (Nat.le_of_ble_eq_true rfl) (walk ?_)
  have k1 := c_5Sign a
  have k2 := c_5Sign b
  simp only [Dy.nv, DP, VN, VL] at k1 k2 ⊢
  simp only [Tryz.f144, go_sem]
  refine qcall_i (k1) ?_; simp only [Tryz.f144, go_sem]
  refine qcall_i (k2) ?_; simp only [Tryz.f144, go_sem]
  by_cases hs : a.sg ≠ b.sg ∨ a.sg = 0
  · rw [cmpD_sg hs]
    unfold sgn
    by_cases h3 : a.sg = b.sg
    · refine qif_df (fun h => h h3) ?_
      simp only [Tryz.f144, go_sem]
      refine qif_dt (by omega) ?_
      simp only [Tryz.f144, go_sem]
      refine qif_df (by omega) ?_
      simp only [Tryz.f144, go_sem]
      refine qif_df (by omega) ?_
      simp only [Tryz.f144, go_sem]
      rw [if_neg (by omega), if_neg (by omega)]
    · refine qif_dt h3 ?_
      simp only [Tryz.f144, go_sem]
      refine qif_d (fun h4 => ?_) (fun h4 => ?_)
      · simp only [Tryz.f144, go_sem]
        rw [if_pos h4]
      · simp only [Tryz.f144, go_sem]
        refine qif_dt (by omega) ?_
        simp only [Tryz.f144, go_sem]
        rw [if_neg h4, if_pos (by omega)]
  · have hx : a.m ≠ 0 := fun h => hs (.inr (by unfold Dy.sg; rw [if_pos h]))
    have hy : b.m ≠ 0 := fun h => hs (by
      have : b.sg = 0 := by unfold Dy.sg; rw [if_pos h]
      omega)
    have hss : a.s = b.s := by
      have h5 : a.sg = b.sg := by omega
      unfold Dy.sg at h5
      rw [if_neg hx, if_neg hy] at h5
      revert h5
      cases a.s <;> cases b.s <;> simp
    refine qif_df (by omega) ?_
    simp only [Tryz.f144, go_sem]
    refine qif_df (by omega) ?_
    have k3 := c_5Top a hx ha (by omega) (by omega)
    have k4 := c_5Top b hy hb (by omega) (by omega)
    simp only [Dy.nv, DP, VN, VL] at k3 k4
    simp only [Tryz.f144, go_sem]
    refine qcall_i (k3) ?_; simp only [Tryz.f144, go_sem]
    refine qcall_i (k4) ?_; simp only [Tryz.f144, go_sem]
    by_cases ht : a.top = b.top
    · refine qif_df (fun h => h ht) ?_
      have hnn := hn hx hy ht
      have k5 := c_5Add a ⟨!b.s, b.m, b.e⟩ ha hb h1 h2 (fun _ _ => hnn)
      have k6 := c_5Sign (addD a ⟨!b.s, b.m, b.e⟩)
      have e9 : (addD a ⟨!b.s, b.m, b.e⟩).sg = cmpD a b := by
        have hne : ¬a.s = !b.s := by rw [hss]; cases b.s <;> simp
        unfold addD cmpD Dy.at
        dsimp only
        rw [if_neg hx, if_neg hy, if_neg hne, ← hss]
        generalize a.m * 2 ^ (a.e - min a.e b.e).toNat = x at *
        generalize b.m * 2 ^ (b.e - min a.e b.e).toNat = y at *
        unfold sgn
        cases a.s
        · rcases Nat.lt_trichotomy x y with h | h | h
          · rw [if_neg (by omega), if_pos (by simp; omega)]
            simp [Dy.sg]; omega
          · rw [if_pos (by omega), if_neg (by simp; omega), if_neg (by simp; omega)]
            simp [Dy.sg]; omega
          · rw [if_pos (by omega), if_neg (by simp; omega), if_pos (by simp; omega)]
            simp [Dy.sg]; omega
        · rcases Nat.lt_trichotomy x y with h | h | h
          · rw [if_neg (by omega), if_neg (by simp; omega), if_pos (by simp; omega)]
            simp [Dy.sg]; omega
          · rw [if_pos (by omega), if_neg (by simp; omega), if_neg (by simp; omega)]
            simp [Dy.sg]; omega
          · rw [if_pos (by omega), if_pos (by simp; omega)]
            simp [Dy.sg]; omega
      rw [e9] at k6
      simp only [Dy.nv, DP, VN, VL] at k5 k6
      simp only [Tryz.f144, go_sem]
      refine qcall_i (k5) ?_; simp only [Tryz.f144, go_sem]
      refine qcall_i (k6) ?_; simp only [Tryz.f144, go_sem]
    · refine qif_dt ht ?_
      simp only [Tryz.f144, go_sem]
      refine qcall_i (k3) ?_; simp only [Tryz.f144, go_sem]
      refine qcall_i (k4) ?_; simp only [Tryz.f144, go_sem]
      rw [cmpD_top hx hy hss ht]
      cases hc : (decide (a.top < b.top) != a.s)
      · simp only [Tryz.f144, go_sem]
      · simp only [Tryz.f144, go_sem]
end
section
open Go PG Go.Proofs
def fe (b : Nat) : Nat := b / 4503599627370496 % 2048
def ff (b : Nat) : Nat := b % 4503599627370496
def fs (b : Nat) : Bool := decide (9223372036854775808 ≤ b)
def fsz (b : Nat) : Nat := b % 9223372036854775808
def kind (b : Nat) : Nat := if fe b = 0 ∧ ff b = 0 then 0 else if fe b = 0 then 1 else if fe b < 2047 then 2 else if ff b = 0 then 3 else if 2251799813685248 ≤ ff b then 4 else 5
theorem m_and (x k m : Nat) (hx : x < W) (hm : m = 2 ^ k - 1) (hk : m < W) : bits .and .u64 (x : Int) (m : Int) = ((x % 2 ^ k : Nat) : Int) := by
  rw [b_and hx hk, hm, Nat.and_two_pow_sub_one_eq_mod]
theorem a52 {x : Nat} (hx : x < W) : bits .and .u64 (x : Int) 4503599627370495 = ((ff x : Nat) : Int) := m_and x 52 4503599627370495 hx (by decide) (by decide)
theorem a11 {x : Nat} (hx : x < W) : bits .and .u64 (x : Int) 2047 = ((x % 2048 : Nat) : Int) := m_and x 11 2047 hx (by decide) (by decide)
theorem and_top {x : Nat} (hx : x < W) : x &&& 9223372036854775808 = if 9223372036854775808 ≤ x then 9223372036854775808 else 0 := by
  apply Nat.eq_of_testBit_eq
  intro i
  rw [Nat.testBit_and, show (9223372036854775808 : Nat) = 2 ^ 63 by decide, Nat.testBit_two_pow]
  by_cases hi : 63 = i
  · subst hi
    rw [decide_eq_true rfl, Bool.and_true]
    split
    · rename_i h
      rw [Nat.testBit_two_pow_self, Nat.testBit_eq_decide_div_mod_eq]
      have : x < 18446744073709551616 := hx
      simp only [decide_eq_true_eq]
      omega
    · rename_i h
      rw [Nat.zero_testBit]
      exact Nat.testBit_lt_two_pow (by omega)
  · rw [decide_eq_false hi, Bool.and_false]
    split
    · exact (Nat.testBit_two_pow_of_ne hi).symm
    · exact (Nat.zero_testBit i).symm
theorem a63 {x : Nat} (hx : x < W) : bits .and .u64 (x : Int) 9223372036854775808 = ((if 9223372036854775808 ≤ x then 9223372036854775808 else 0 : Nat) : Int) := by
  rw [← and_top hx]; exact b_and hx (by decide)
theorem n63 {x : Nat} (hx : x < W) : bits .andNot .u64 (x : Int) 9223372036854775808 = ((fsz x : Nat) : Int) := by
  have h := u64_andNot_nat x 9223372036854775808 hx (by decide)
  refine h.trans ?_
  rw [show (18446744073709551615 - 9223372036854775808 : Nat) = 2 ^ 63 - 1 by decide, Nat.and_two_pow_sub_one_eq_mod]; rfl
theorem o52 {f : Nat} (hf : f < 4503599627370496) : bits .or .u64 (f : Int) 4503599627370496 = ((f + 4503599627370496 : Nat) : Int) := by
  have h := b_or (a := f) (b := 4503599627370496) (Nat.lt_trans hf (by decide)) (by decide)
  refine h.trans ?_
  have := Nat.two_pow_add_eq_or_of_lt (i := 52) (b := f) hf 1
  rw [Nat.mul_one] at this
  rw [Nat.or_comm, show (4503599627370496 : Nat) = 2 ^ 52 by decide, ← this, Nat.add_comm]
theorem o63 {f : Nat} (hf : f < 9223372036854775808) : bits .or .u64 (f : Int) 9223372036854775808 = ((f + 9223372036854775808 : Nat) : Int) := by
  have h := b_or (a := f) (b := 9223372036854775808) (Nat.lt_trans hf (by decide)) (by decide)
  refine h.trans ?_
  have := Nat.two_pow_add_eq_or_of_lt (i := 63) (b := f) hf 1
  rw [Nat.mul_one] at this
  rw [Nat.or_comm, show (9223372036854775808 : Nat) = 2 ^ 63 by decide, ← this, Nat.add_comm]
theorem fe_lt (b : Nat) : fe b < 2048 := Nat.mod_lt _ (by decide)
theorem ff_lt (b : Nat) : ff b < 4503599627370496 := Nat.mod_lt _ (by decide)
theorem fsz_lt (b : Nat) : fsz b < 9223372036854775808 := Nat.mod_lt _ (by decide)
theorem c_field (b : Nat) (hb : b < W) : PC E 39 [u b] (.int .i64 (fe b)) := by
  refine PC.of_body follows Tryz.func39 (by decide +kernel) rfl (by kernel_rfl) (Nat.le_of_ble_eq_true rfl) (walk ?_)
  have e1 := b_shr hb 52
  have e2 := a11 (x := b / 2 ^ 52) (Nat.lt_of_le_of_lt (Nat.div_le_self _ _) hb)
  have e3 : IntKind.wrap .i64 ((b / 2 ^ 52 % 2048 : Nat) : Int) = ((fe b : Nat) : Int) := wrap64 (by omega) (by omega)
  simp only [Tryz.f39, u, e1, e2, e3, go_sem]
theorem c_Kind (b : Nat) (hb : b < W) : PC E 12 [u b] (.int .i64 (kind b)) := by
  refine PC.of_body follows Tryz.func12 (by decide +kernel) rfl (by kernel_rfl) (Nat.le_of_ble_eq_true rfl) (walk ?_)
  have e1 := a52 hb
  simp only [Tryz.f12, u, e1, go_sem]
  refine qcall_i (c_field b hb) ?_; simp only [Tryz.f12, u, e1, go_sem]
  unfold kind
  generalize fe b = e
  generalize ff b = f
  refine qif_d (fun h => ?_) (fun h => ?_)
  all_goals simp only [Tryz.f12, u, go_sem]
  · refine qif_d (fun h1 => ?_) (fun h1 => ?_)
    all_goals simp only [Tryz.f12, u, go_sem]
    · rw [if_pos (by omega)]; rfl
    · refine qif_dt (by omega) ?_
      simp only [Tryz.f12, u, go_sem]
      rw [if_neg (by omega), if_pos (by omega)]; rfl
  · refine qif_df (by omega) ?_
    simp only [Tryz.f12, u, go_sem]
    rw [if_neg (by omega), if_neg (by omega)]
    refine qif_d (fun h1 => ?_) (fun h1 => ?_)
    all_goals simp only [Tryz.f12, u, go_sem]
    · rw [if_pos (by omega)]; rfl
    · rw [if_neg (by omega)]
      refine qif_d (fun h2 => ?_) (fun h2 => ?_)
      all_goals simp only [Tryz.f12, u, go_sem]
      · rw [if_pos (by omega)]; rfl
      · rw [if_neg (by omega)]
        refine qif_d (fun h3 => ?_) (fun h3 => ?_)
        all_goals simp only [Tryz.f12, u, go_sem]
        · rw [if_pos (by omega)]; rfl
        · rw [if_neg (by omega)]; rfl
theorem c_Neg (b : Nat) (hb : b < W) : PC E 45 [u b] (.bool (fs b)) := by
  refine PC.of_body follows Tryz.func45 (by decide +kernel) rfl (by kernel_rfl) (Nat.le_of_ble_eq_true rfl) (walk ?_)
  have e1 := a63 hb
  simp only [Tryz.f45, u, e1, go_sem]
  unfold fs
  by_cases h : 9223372036854775808 ≤ b
  · rw [if_pos h, decide_eq_true h]; rfl
  · rw [if_neg h, decide_eq_false h]; rfl
theorem c_Finite (b : Nat) (hb : b < W) : PC E 11 [u b] (.bool (decide (fe b < 2047))) := by
  refine PC.of_body follows Tryz.func11 (by decide +kernel) rfl (by kernel_rfl) (Nat.le_of_ble_eq_true rfl) (walk ?_)
  simp only [Tryz.f11, go_sem]
  refine qcall_i (c_field b hb) ?_; simp only [Tryz.f11, go_sem]
  exact decide_eq_decide.2 (by omega)
theorem t52 (b : Nat) : Int.tdiv (b : Int) 4503599627370496 = ((b / 4503599627370496 : Nat) : Int) := n_tdiv b 4503599627370496
theorem m52 (b : Nat) : Int.tmod (b : Int) 4503599627370496 = ((ff b : Nat) : Int) := n_tmod b 4503599627370496
theorem m63 (b : Nat) : Int.tmod (b : Int) 9223372036854775808 = ((fsz b : Nat) : Int) := n_tmod b 9223372036854775808
theorem m11 (b : Nat) : Int.tmod ((b / 4503599627370496 : Nat) : Int) 2048 = ((fe b : Nat) : Int) := n_tmod (b / 4503599627370496) 2048
theorem w52 {b : Nat} (hb : b < W) : IntKind.wrap .u64 ((b / 4503599627370496 : Nat) : Int) = ((b / 4503599627370496 : Nat) : Int) := wrap_nat64 (Nat.lt_of_le_of_lt (Nat.div_le_self _ _) hb)
theorem c_rKind (b : Nat) (hb : b < W) : PC E 16 [u b] (.int .i64 (kind b)) := by
  refine PC.of_body follows Tryz.func16 (by decide +kernel) rfl (by kernel_rfl) (Nat.le_of_ble_eq_true rfl) (walk ?_)
  simp only [Tryz.f16, u, t52, w52 hb, m11, m52, go_sem]
  unfold kind
  generalize fe b = e
  generalize ff b = f
  refine qif_d (fun h => ?_) (fun h => ?_)
  all_goals simp only [Tryz.f16, u, go_sem]
  · refine qif_d (fun h1 => ?_) (fun h1 => ?_)
    all_goals simp only [Tryz.f16, u, go_sem]
    · rw [if_pos (by omega)]; rfl
    · refine qif_dt (by omega) ?_
      simp only [Tryz.f16, u, go_sem]
      rw [if_neg (by omega), if_pos (by omega)]; rfl
  · refine qif_df (by omega) ?_
    simp only [Tryz.f16, u, go_sem]
    rw [if_neg (by omega), if_neg (by omega)]
    refine qif_d (fun h1 => ?_) (fun h1 => ?_)
    all_goals simp only [Tryz.f16, u, go_sem]
    · rw [if_pos (by omega)]; rfl
    · rw [if_neg (by omega)]
      refine qif_d (fun h2 => ?_) (fun h2 => ?_)
      all_goals simp only [Tryz.f16, u, go_sem]
      · rw [if_pos (by omega)]; rfl
      · rw [if_neg (by omega)]
        refine qif_d (fun h3 => ?_) (fun h3 => ?_)
        all_goals simp only [Tryz.f16, u, go_sem]
        · rw [if_pos (by omega)]; rfl
        · rw [if_neg (by omega)]; rfl
theorem c_rSize (b : Nat) (hb : b < W) : PC E 140 [u b] (u (fsz b)) := by
  refine PC.of_body follows Tryz.func140 (by decide +kernel) rfl (by kernel_rfl) (Nat.le_of_ble_eq_true rfl) (walk ?_)
  simp only [Tryz.f140, u, m63, go_sem]
end
section
open Go PG Go.Proofs
theorem num_one {x : Nat} (h : x < W) : Num (.lst 1 [.int .u64 (x : Int)]) x :=
  ⟨[x], rfl, Ok.cons h Ok.nil, by simp [vl, dv], by simp⟩
def fm (b : Nat) : Nat := if fe b = 0 then ff b else ff b + 4503599627370496
def fd (b : Nat) : Dy := mkD (fs b) (fm b) (max (fe b : Int) 1 - 1075)
theorem fm_lt (b : Nat) : fm b < 9007199254740992 := by unfold fm; have := ff_lt b; split <;> omega
theorem fm_bits (b : Nat) : bitLen (fm b) ≤ 53 := (bitLen_le _ _).2 (fm_lt b)
theorem fm_W (b : Nat) : fm b < W := Nat.lt_trans (fm_lt b) (by decide)
theorem fd_e (b : Nat) : -1074 ≤ (fd b).e ∧ (fd b).e ≤ 1025 := by
  unfold fd mkD
  have h1 := fe_lt b
  have h2 := fm_bits b
  split
  · exact ⟨by decide, by decide⟩
  · rename_i h
    have h3 := tz_bits h
    show -1074 ≤ cut _ + (tz (fm b) : Int) ∧ cut _ + (tz (fm b) : Int) ≤ 1025
    rw [cut_id (by omega) (by omega)]
    omega
theorem fd_bits (b : Nat) : bitLen (fd b).m ≤ 53 := Nat.le_trans (mkD_bits _ _ _) (fm_bits b)
theorem fd_fits (b : Nat) : (fd b).fits := by have := fd_e b; exact ⟨by omega, by omega⟩
theorem c_FDyad (b : Nat) (hb : b < W) : PC E 20 [u b] (if fe b < 2047 then .tuple [(fd b).pv, .bool true] else .tuple [Dy.zero.pv, .bool false]) := by
  refine PC.of_body follows Tryz.func20 (by decide +kernel) rfl (by kernel_rfl) (Nat.le_of_ble_eq_true rfl) (walk ?_)
  have e1 := a52 hb
  have e2 := o52 (ff_lt b)
  have h1 := fe_lt b
  have hm : fm b = if fe b = 0 then ff b else ff b + 4503599627370496 := rfl
  have e3 : IntKind.wrap .i64 (max (fe b : Int) 1 - 1075) = max (fe b : Int) 1 - 1075 := wrap64 (by omega) (by omega)
  have fin : PC E 60 [.bool (fs b), .lst 1 [.int .u64 (fm b : Int)], .int .i64 (max (fe b : Int) 1 - 1075)] (.tuple [(fd b).pv, .int .i64 0]) :=
    PC.cast (c_Make (num_one (fm_W b)) (Nat.le_trans (fm_bits b) (by decide)) (fs b) _) (if_pos (fd_fits b))
  simp only [Tryz.f20, go_sem]
  refine qcall_i (c_Finite b hb) ?_; simp only [Tryz.f20, go_sem]
  by_cases hf : fe b < 2047
  · rw [decide_eq_true hf, if_pos hf]
    simp only [Tryz.f20, u, e1, go_sem]
    refine qcall_i (c_field b hb) ?_; simp only [Tryz.f20, u, e1, go_sem]
    refine qif_d (fun h => ?_) (fun h => ?_)
    · rw [if_neg (by omega)] at hm
      simp only [Tryz.f20, u, e2, go_sem]
      refine qcall_i (c_Neg b hb) ?_; simp only [Tryz.f20, u, e3, go_sem]
      rw [← hm]
      refine qcall_i (fin) ?_; simp only [Tryz.f20, Dy.pv, DP, NN, NL, go_sem]
    · rw [if_pos (by omega)] at hm
      simp only [Tryz.f20, u, e2, go_sem]
      refine qcall_i (c_Neg b hb) ?_; simp only [Tryz.f20, u, e3, go_sem]
      rw [← hm]
      refine qcall_i (fin) ?_; simp only [Tryz.f20, Dy.pv, DP, NN, NL, go_sem]
  · rw [decide_eq_false hf, if_neg hf]
    simp only [Tryz.f20, go_sem]
    rfl
theorem c_Whole (b : Nat) (hb : b < W) : PC E 72 [u b] (.tuple [.bool (decide (fe b < 2047 ∧ 0 ≤ (fd b).e)), .bool (decide (fe b < 2047 ∧ (fd b).e = 0 ∧ (fd b).m % 2 = 1))]) := by
  refine PC.of_body follows Tryz.func72 (by decide +kernel) rfl (by kernel_rfl) (Nat.le_of_ble_eq_true rfl) (walk ?_)
  have h := c_FDyad b hb
  have hB := fd_bits b
  by_cases hf : fe b < 2047
  · rw [if_pos hf] at h
    generalize fd b = d at *
    have k := k_Odd (num_bits (x := d.m) (by omega))
    by_cases h0 : d.e = 0
    · simp only [Tryz.f72, go_sem]
      refine qcall_i (h) ?_; simp only [Tryz.f72, Dy.pv, DP, NN, NL, h0, go_sem]
      refine qcall_i (k) ?_; simp only [Tryz.f72, go_sem]
      simp [hf, h0]
    · simp only [Tryz.f72, go_sem]
      refine qcall_i (h) ?_; simp only [Tryz.f72, Dy.pv, DP, NN, NL, h0, go_sem]
      simp [hf, h0]
  · rw [if_neg hf] at h
    simp only [Tryz.f72, go_sem]
    refine qcall_i (h) ?_; simp only [Tryz.f72, Dy.zero, Dy.pv, DP, NN, NL, go_sem]
    simp [hf]
theorem dg_one {x : Nat} (h0 : x ≠ 0) (h : x < W) : dg W x = [x] := by
  rw [dg_eq W2, if_neg h0, Nat.div_eq_of_lt h, Nat.mod_eq_of_lt h, dg_eq W2, if_pos rfl]
end
section
open Go PG Go.Proofs
theorem mkD_zero_of {s : Bool} {x : Nat} {e : Int} (h : (mkD s x e).m = 0) : mkD s x e = .zero := by
  by_cases hx : x = 0
  · subst hx; rfl
  · exfalso
    rw [mkD, if_neg hx] at h
    obtain ⟨m, hm⟩ := tz_spec hx
    have : x / 2 ^ tz x = 2 * m + 1 := Nat.div_eq_of_eq_mul_right (Nat.two_pow_pos _) hm
    have h' : x / 2 ^ tz x = 0 := h
    omega
theorem c_Worth (b : Nat) (hb : b < W) : PC E 81 [u b] (fd b).nv := by
  refine PC.of_body follows Tryz.func81 (by decide +kernel) rfl (by kernel_rfl) (Nat.le_of_ble_eq_true rfl) (walk ?_)
  have hf := fe_lt b
  have hg := ff_lt b
  have e1 : IntKind.wrap .i64 (fe b : Int) = fe b := wrap64 (by omega) (by omega)
  have e2 : IntKind.wrap .i64 ((fe b : Int) - 1075) = fe b - 1075 := wrap64 (by omega) (by omega)
  have e3 : IntKind.wrap .u64 ((ff b : Int) + 4503599627370496) = ((ff b + 4503599627370496 : Nat) : Int) := by
    rw [show (ff b : Int) + 4503599627370496 = ((ff b + 4503599627370496 : Nat) : Int) by omega]
    exact wrap_nat64 (Nat.lt_of_lt_of_le (Nat.add_lt_add_right hg _) (by decide))
  have k := c_5Of (num_one (fm_W b)) (Nat.le_trans (fm_bits b) (by decide)) (fs b) (max (fe b : Int) 1 - 1075)
  rw [show mkD (fs b) (fm b) (max (fe b : Int) 1 - 1075) = fd b from rfl] at k
  simp only [Dy.nv, DP, VN, VL] at k ⊢
  have hs : decide ((b : Int) ≥ 9223372036854775808) = fs b := decide_eq_decide.2 (by omega)
  have hm : fm b = if fe b = 0 then ff b else ff b + 4503599627370496 := rfl
  simp only [Tryz.f81, u, t52, w52 hb, m11, m52, e1, go_sem]
  refine qif_d (fun h => ?_) (fun h => ?_)
  · rw [if_pos (by omega)] at hm
    rw [show max (fe b : Int) 1 - 1075 = -1074 by omega, hm] at k
    simp only [Tryz.f81, hs, go_sem]
    refine qcall_i (k) ?_; simp only [Tryz.f81, go_sem]
    rfl
  · rw [if_neg (by omega)] at hm
    rw [show max (fe b : Int) 1 - 1075 = fe b - 1075 by omega, hm] at k
    simp only [Tryz.f81, hs, e2, e3, go_sem]
    refine qcall_i (k) ?_; simp only [Tryz.f81, go_sem]
    rfl
end
section
open Go PG Go.Proofs
theorem at_shift (d : Dy) {k k' : Int} (h1 : k ≤ k') (h2 : k' ≤ d.e) : d.at k = d.at k' * ((2 ^ (k' - k).toNat : Nat) : Int) := by
  unfold Dy.at
  rw [show (d.e - k).toNat = (d.e - k').toNat + (k' - k).toNat by omega, Nat.pow_add, ← Nat.mul_assoc, Int.natCast_mul, Int.mul_assoc]
theorem sgn_mulI (x y : Int) (n : Nat) (h : 0 < n) : sgn (x * n) (y * n) = sgn x y := by
  have hn : (0 : Int) < n := by omega
  have h1 : x * n < y * n ↔ x < y := ⟨fun h => Int.lt_of_mul_lt_mul_right h (Int.le_of_lt hn), fun h => Int.mul_lt_mul_of_pos_right h hn⟩
  have h2 : y * n < x * n ↔ y < x := ⟨fun h => Int.lt_of_mul_lt_mul_right h (Int.le_of_lt hn), fun h => Int.mul_lt_mul_of_pos_right h hn⟩
  unfold sgn
  simp only [h1, h2]
theorem cmpD_at (a b : Dy) {k : Int} (h1 : k ≤ a.e) (h2 : k ≤ b.e) : cmpD a b = sgn (a.at k) (b.at k) := by
  unfold cmpD
  rw [at_shift a (k := k) (k' := min a.e b.e) (by omega) (by omega), at_shift b (k := k) (k' := min a.e b.e) (by omega) (by omega), sgn_mulI _ _ _ (Nat.two_pow_pos _)]
theorem mkD_at (s : Bool) (x : Nat) {e k : Int} (h1 : -2147483648 ≤ e) (h2 : e ≤ 2147483648) (hk : k ≤ e) : (mkD s x e).at k = (if s = true then -1 else 1) * ((x * 2 ^ (e - k).toNat : Nat) : Int) := by
  unfold mkD
  by_cases hx : x = 0
  · rw [if_pos hx, hx]
    simp [Dy.at, Dy.zero]
  · rw [if_neg hx]
    obtain ⟨m, hm⟩ := tz_spec hx
    have : x / 2 ^ tz x = 2 * m + 1 := Nat.div_eq_of_eq_mul_right (Nat.two_pow_pos _) hm
    have hd : x / 2 ^ tz x * 2 ^ tz x = x := by rw [this, Nat.mul_comm]; exact hm.symm
    unfold Dy.at
    dsimp only
    rw [cut_id h1 h2, show (e + (tz x : Int) - k).toNat = tz x + (e - k).toNat by omega, Nat.pow_add, ← Nat.mul_assoc, hd]
def fv (b : Nat) : Nat := fm b * 2 ^ (max (fe b) 1 - 1)
theorem fd_at (b : Nat) : (fd b).at (-1074) = (if fs b = true then -1 else 1) * (fv b : Int) := by
  have := fe_lt b
  rw [fd, mkD_at _ _ (by omega) (by omega) (by omega), fv]
  rw [show (max (fe b : Int) 1 - 1075 - -1074).toNat = max (fe b) 1 - 1 by omega]
theorem fv_lt {a b : Nat} (hb : b < 9223372036854775808) (h : a < b) : fv a < fv b := by
  have ha : a < 9223372036854775808 := Nat.lt_trans h hb
  have e1 : fe a = a / 4503599627370496 := by unfold fe; omega
  have e2 : fe b = b / 4503599627370496 := by unfold fe; omega
  have f1 : ff a = a % 4503599627370496 := rfl
  have f2 : ff b = b % 4503599627370496 := rfl
  unfold fv fm
  by_cases he : fe a = fe b
  · rw [he]
    refine Nat.mul_lt_mul_of_pos_right ?_ (Nat.two_pow_pos _)
    split <;> omega
  · have hlt : fe a < fe b := by omega
    have hb0 : fe b ≠ 0 := by omega
    rw [if_neg hb0]
    by_cases ha0 : fe a = 0
    · rw [if_pos ha0, ha0]
      have hp : 1 ≤ 2 ^ (max (fe b) 1 - 1) := Nat.two_pow_pos _
      have h3 : (ff b + 4503599627370496) * 1 ≤ (ff b + 4503599627370496) * 2 ^ (max (fe b) 1 - 1) := Nat.mul_le_mul_left _ hp
      have h4 : ff a < 4503599627370496 := ff_lt a
      rw [show max 0 1 - 1 = 0 from rfl, Nat.pow_zero, Nat.mul_one]
      omega
    · rw [if_neg ha0]
      have h5 : 2 ^ fe a ≤ 2 ^ (max (fe b) 1 - 1) := Nat.pow_le_pow_right (by decide) (by omega)
      have h6 : 2 ^ fe a = 2 * 2 ^ (max (fe a) 1 - 1) := by
        obtain ⟨n, hn⟩ : ∃ n, fe a = n + 1 := ⟨fe a - 1, by omega⟩
        rw [hn, show max (n + 1) 1 - 1 = n by omega, Nat.pow_succ, Nat.mul_comm]
      have h7 : 0 < 2 ^ (max (fe a) 1 - 1) := Nat.two_pow_pos _
      have h4 : ff a < 4503599627370496 := ff_lt a
      generalize 2 ^ (max (fe a) 1 - 1) = P at *
      generalize 2 ^ (max (fe b) 1 - 1) = Q at *
      have h8 : (ff a + 4503599627370496) * P < 9007199254740992 * P := Nat.mul_lt_mul_of_pos_right (by omega) h7
      have h9 : 4503599627370496 * Q ≤ (ff b + 4503599627370496) * Q := Nat.mul_le_mul_right _ (by omega)
      omega
theorem fv_sgn {a b : Nat} (ha : a < 9223372036854775808) (hb : b < 9223372036854775808) : sgn (fv a) (fv b) = sgn a b := by
  rcases Nat.lt_trichotomy a b with h | h | h
  · have := fv_lt hb h
    unfold sgn; rw [if_pos (by omega), if_pos (by omega)]
  · rw [h, sgn_self, sgn_self]
  · have := fv_lt ha h
    unfold sgn; rw [if_neg (by omega), if_pos (by omega), if_neg (by omega), if_pos (by omega)]
theorem fd_cmp {a b : Nat} (ha : a < 9223372036854775808) (hb : b < 9223372036854775808) : cmpD (fd a) (fd b) = sgn a b := by
  rw [cmpD_at (fd a) (fd b) (fd_e a).1 (fd_e b).1, fd_at, fd_at]
  have h1 : fs a = false := decide_eq_false (by omega)
  have h2 : fs b = false := decide_eq_false (by omega)
  rw [h1, h2, ← fv_sgn ha hb]
  simp
theorem fd_one : fd 4607182418800017408 = ⟨false, 1, 0⟩ := by
  have h : fm 4607182418800017408 = 2 ^ 52 * (2 * 0 + 1) := by decide
  have ht : tz (2 ^ 52 * (2 * 0 + 1)) = 52 := tz_of (m := 0) rfl
  unfold fd mkD
  rw [h, if_neg (by decide), ht]
  decide
theorem fd_ok (b : Nat) : (fd b).m = 0 ∨ (fd b).m % 2 = 1 := by
  unfold fd mkD
  split
  · exact .inl rfl
  · rename_i hx
    obtain ⟨m, hm⟩ := tz_spec hx
    have : fm b / 2 ^ tz (fm b) = 2 * m + 1 := Nat.div_eq_of_eq_mul_right (Nat.two_pow_pos _) hm
    right
    show fm b / 2 ^ tz (fm b) % 2 = 1
    omega
end
section
open Go PG Go.Proofs
def unitOf (t : Int) : Int := max (t - 52) (-1074)
def packB (m : Nat) (unit : Int) : Nat := if 4503599627370496 ≤ m then m - 4503599627370496 + (unit + 1075).toNat * 4503599627370496 else m
def withS (s : Bool) (b : Nat) : Nat := if s = true then b + 9223372036854775808 else b
def exactS (d : Dy) : Option Nat :=
  if d.m = 0 then some 0 else if 1023 < d.top ∨ d.e < unitOf d.top then none
  else some (withS d.s (packB (d.m * 2 ^ (d.e - unitOf d.top).toNat) (unitOf d.top)))
def exPV (o : Option Nat) : PV := match o with
  | some b => .tuple [.int .u64 b, .bool true]
  | none => .tuple [.int .u64 0, .bool false]
theorem exact_bits {d : Dy} (h : d.m ≠ 0) (h2 : unitOf d.top ≤ d.e) : bitLen (d.m * 2 ^ (d.e - unitOf d.top).toNat) ≤ 53 := by
  rw [bitLen_shl _ _ h]
  unfold Dy.top at *
  rw [if_neg h] at *
  unfold unitOf at *
  omega
theorem o52k {f k : Nat} (hf : f < 4503599627370496) (hk : k < 2048) : bits .or .u64 (f : Int) ((k * 4503599627370496 : Nat) : Int) = ((f + k * 4503599627370496 : Nat) : Int) := by
  have h := b_or (a := f) (b := k * 4503599627370496) (Nat.lt_trans hf (by decide)) (by show _ < 18446744073709551616; omega)
  refine h.trans ?_
  have := Nat.two_pow_add_eq_or_of_lt (i := 52) (b := f) hf k
  rw [Nat.or_comm, Nat.mul_comm k, show (4503599627370496 : Nat) = 2 ^ 52 by decide, ← this, Nat.add_comm]
theorem packB_lt {m : Nat} {unit : Int} (hm : m < 9007199254740992) (h1 : -1074 ≤ unit) (h2 : unit ≤ 971) : packB m unit < 9223372036854775808 := by
  unfold packB; split <;> omega
theorem packS {s : Bool} {b : Nat} (hb : b < 9223372036854775808) : bits .or .u64 (b : Int) 9223372036854775808 = ((b + 9223372036854775808 : Nat) : Int) := o63 hb
theorem c_Exact {p : PV} {x : Nat} (hp : Num p x) (hb : bitLen x ≤ 1000000) (s : Bool) (e : Int) : PC E 167 [DP s p e] (exPV (if (mkD s x e).fits then exactS (mkD s x e) else none)) := by
  refine PC.of_body follows Tryz.func167 (by decide +kernel) rfl (by kernel_rfl) (Nat.le_of_ble_eq_true rfl) (walk ?_)
  have k1 := c_Top hp hb s e
  have k2 := c_DBare hp hb s e
  have b1 := mkD_bits s x e
  have b2 := mkD_range s x e hb
  have hz := @mkD_zero_of s x e
  have hx0 : x = 0 ↔ (mkD s x e).m = 0 := by
    constructor
    · intro h; subst h; rfl
    · intro h
      refine Decidable.byContradiction fun hx => ?_
      rw [mkD, if_neg hx] at h
      obtain ⟨m, hm⟩ := tz_spec hx
      have : x / 2 ^ tz x = 2 * m + 1 := Nat.div_eq_of_eq_mul_right (Nat.two_pow_pos _) hm
      have h' : x / 2 ^ tz x = 0 := h
      omega
  obtain ⟨l, rfl, ol, hlx, hl⟩ := hp
  clear hlx ol hl
  simp only [DP, NL] at k1 k2 ⊢
  generalize PV.lst l.length (U l) = P at *
  generalize hd : mkD s x e = d at *
  unfold exactS
  simp only [Tryz.f167, go_sem]
  refine qcall_i (k1) ?_; simp only [Tryz.f167, go_sem]
  by_cases h0 : d.m = 0
  · rw [decide_eq_false (by simpa using hx0.2 h0)]
    have hf : d.fits := by rw [hz h0]; decide
    rw [if_pos hf, if_pos h0]
    simp only [Tryz.f167, go_sem]
    rfl
  rw [decide_eq_true (show ¬ x = 0 from fun h => h0 (hx0.1 h))]
  by_cases hf : d.fits
  · rw [if_pos hf] at k2 ⊢
    rw [if_neg h0]
    have ht : d.top = bitLen d.m - 1 + d.e := if_neg h0
    have hbp := bitLen_pos h0
    have hu : unitOf d.top = max (d.top - 52) (-1074) := rfl
    have w1 : IntKind.wrap .i64 (d.top - 52) = d.top - 52 := wrap64 (by have := hf.1; omega) (by have := hf.2; omega)
    simp only [Dy.pv, DP, NN, NL] at k2
    simp only [Tryz.f167, go_sem]
    refine qcall_i (k2) ?_; simp only [Tryz.f167, w1, go_sem]
    rw [← hu]
    refine qif_d (fun h1 => ?_) (fun h1 => ?_)
    · simp only [Tryz.f167, go_sem]
      rw [if_pos (.inl h1)]; rfl
    simp only [Tryz.f167, go_sem]
    refine qif_d (fun h2 => ?_) (fun h2 => ?_)
    · simp only [Tryz.f167, go_sem]
      rw [if_pos (.inr h2)]; rfl
    rw [if_neg (by omega)]
    have h2' : unitOf d.top ≤ d.e := by omega
    have hM := exact_bits h0 h2'
    have hbs := bitLen_shl d.m (d.e - unitOf d.top).toNat h0
    have k3 := k_Shln (num_bits (x := d.m) (by omega)) (d.e - unitOf d.top).toNat (by omega)
    have hlt : d.m * 2 ^ (d.e - unitOf d.top).toNat < 9007199254740992 := (bitLen_le _ 53).1 hM
    generalize d.m * 2 ^ (d.e - unitOf d.top).toNat = M at *
    have hMW : M < W := Nat.lt_trans hlt (by decide)
    have k4 := k_Small (num_bits (x := M) (by omega))
    rw [if_pos hMW, decide_eq_true hMW] at k4
    have hr : -1074 ≤ unitOf d.top ∧ unitOf d.top ≤ 971 := by omega
    have w2 : IntKind.wrap .i64 (d.e - unitOf d.top) = ((d.e - unitOf d.top).toNat : Int) := by rw [wrap64 (by have := hf.1; omega) (by have := hf.2; omega)]; omega
    have w3 : IntKind.wrap .i64 (unitOf d.top + 1075) = ((unitOf d.top + 1075).toNat : Int) := by rw [wrap64 (by omega) (by omega)]; omega
    generalize unitOf d.top = t at *
    have hK : (t + 1075).toNat < 2048 := by omega
    have hpk : packB M t = if 4503599627370496 ≤ M then M - 4503599627370496 + (t + 1075).toNat * 4503599627370496 else M := rfl
    have hpl := packB_lt hlt hr.1 hr.2
    generalize (t + 1075).toNat = K at *
    have w4 : IntKind.wrap .u64 (K : Int) = (K : Int) := wrap_nat64 (Nat.lt_trans hK (by decide))
    have w5 : IntKind.wrap .u64 ((K : Int) * 2 ^ (min 52 64)) = ((K * 4503599627370496 : Nat) : Int) := by
      rw [b_shl K 52, show (2 ^ 52 : Nat) = 4503599627370496 by decide, Nat.mod_eq_of_lt (show K * 4503599627370496 < W by show _ < 18446744073709551616; omega)]
    have w6 := a52 hMW
    have w7 := o52k (f := ff M) (k := K) (ff_lt M) hK
    have w8 := packS (s := d.s) hpl
    simp only [Tryz.f167, w2, go_sem]
    refine qcall_i (k3) ?_; simp only [Tryz.f167, go_sem]
    refine qcall_i (k4) ?_; simp only [Tryz.f167, u, go_sem]
    refine qif_d (fun h3 => ?_) (fun h3 => ?_)
    · have e9 : ff M + K * 4503599627370496 = packB M t := by rw [hpk, if_pos (by omega)]; unfold ff; omega
      rw [e9] at w7
      unfold withS
      cases hs : d.s
      · simp only [Tryz.f167, w3, w4, w5, w6, w7, go_sem]
        rfl
      · simp only [Tryz.f167, w3, w4, w5, w6, w7, w8, go_sem]
        rfl
    · have e9 : M = packB M t := by rw [hpk, if_neg (by omega)]
      rw [← e9] at w8 ⊢
      unfold withS
      cases hs : d.s
      · simp only [Tryz.f167, go_sem]
        rfl
      · simp only [Tryz.f167, w8, go_sem]
        rfl
  · rw [if_neg hf] at k2 ⊢
    simp only [Dy.pv, Dy.zero, DP, NN, NL] at k2
    simp only [Tryz.f167, go_sem]
    refine qcall_i (k2) ?_; simp only [Tryz.f167, go_sem]
    rfl
end
end
end Go.Proofs.YtfkgaldbcngliaaGreatDoor
namespace PG
section
open Go Go.RowKit Go.ChangeShapes Go.WideShapes Go.ChangeAt
def old (w : World) : Nat → Nat → Prop := fun g _ => g < w.heap.size
theorem rd_old {w : World} {a : Addr} {x : Value} (h : w.cell? a = some x) : rd w (old w) a = some x := rd_some.2 ⟨World.block_lt_of_cell? _ _ h, h⟩
def Rd (P : Program) (w : World) (t : TypeId) (Q : List PV → Prop) : Prop :=
  ∀ (H : Type) (enc : TypeId × Value → H) (fuel : Nat) (cs : List Value) (x : DataW H × List MemPlace), DataW.trod enc P w 0 (fun _ => true) true fuel t cs = some x → ∃ pvs, All2 (rd w (old w)) pvs cs ∧ Q pvs
section
variable {P : Program} {w : World} {t e : TypeId}
theorem Rd.int {k : IntKind} (ht : P.underlying t = some (.int k)) : Rd P w t fun l => ∃ n, l = [.int k n] ∧ k.min ≤ n ∧ n ≤ k.max := by
  intro H enc fuel cs x h
  obtain ⟨n, rfl, _, hw⟩ := DataW.trod_int ht h
  simp only [Lit.wf, Bool.and_eq_true, decide_eq_true_eq] at hw
  exact ⟨[.int k n], All2.cons (.int k n) rfl All2.nil, n, rfl, hw.1, hw.2⟩
theorem Rd.bool (ht : P.underlying t = some .bool) : Rd P w t fun l => ∃ b, l = [.bool b] := by
  intro H enc fuel cs x h
  obtain ⟨b, rfl, _⟩ := DataW.trod_bool ht h
  exact ⟨[.bool b], All2.cons (.bool b) rfl All2.nil, b, rfl⟩
theorem Rd.str (ht : P.underlying t = some .string) : Rd P w t fun l => ∃ s, l = [.str s] ∧ s.size ≤ maxLen := by
  intro H enc fuel cs x h
  obtain ⟨s, rfl, _, hs⟩ := DataW.trod_string ht h
  exact ⟨[.str s], All2.cons (.str s) rfl All2.nil, s, rfl, hs⟩
theorem Rd.slice {Q : List PV → Prop} {c : Nat} (ht : P.underlying t = some (.slice e)) (hc : P.cellsOf e = c) (he : Rd P w e Q) :
    Rd P w t fun l => ∃ els : List (List PV), l = [.lst els.length els.flatten] ∧ ∀ x ∈ els, Q x ∧ x.length = c := by
  intro H enc fuel cs x h
  rcases DataW.trod_slice ht h with ⟨rfl, _⟩ | ⟨a, len, cap, elems, rest, n, _, rfl, _, _, hl, hm, hlen, hel, _, _⟩
  · exact ⟨[.lst 0 []], All2.cons .nil rfl All2.nil, [], rfl, fun x hx => by cases hx⟩
  · have each : ∀ k, k ≤ len → ∃ (els : List (List PV)) (xs : List Value), els.length = k ∧ xs.length = k * c ∧ All2 (rd w (old w)) els.flatten xs ∧ (∀ (j : Nat) x, xs[j]? = some x → rd w (old w) (a.add j) = some x) ∧ ∀ x ∈ els, Q x ∧ x.length = c := by
      intro k
      induction k with
      | zero => intro _; exact ⟨[], [], rfl, by simp, All2.nil, fun j x hx => by simp at hx, fun x hx => by cases hx⟩
      | succ k ih =>
        intro hk
        obtain ⟨els, xs, h1, h2, h3, h4, h5⟩ := ih (by omega)
        have hi := hel k (by omega)
        rw [List.getElem?_eq_getElem (show k < elems.length by omega), hc] at hi
        obtain ⟨cs, hcs, hy⟩ := Option.bind_eq_some_iff.1 hi
        obtain ⟨pvs, hall, hq⟩ := he H enc n cs _ hy
        obtain ⟨_, hcl, hcell⟩ := World.cells?_some hcs
        refine ⟨els ++ [pvs], xs ++ cs, by simp [h1], by simp [h2, hcl, Nat.succ_mul], by simpa using h3.append hall, fun j x hx => ?_, fun x hx => ?_⟩
        · rw [List.getElem?_append] at hx
          split at hx
          · exact h4 j x hx
          · rename_i hj
            have hj' : j - xs.length < cs.length := (List.getElem?_eq_some_iff.1 hx).1
            have := hcell (j - xs.length) (by omega)
            rw [hx, add_add, ← h2] at this
            rw [show xs.length + (j - xs.length) = j by omega] at this
            exact rd_old this
        · rcases List.mem_append.1 hx with hx | hx
          · exact h5 x hx
          · simp only [List.mem_singleton] at hx
            subst hx
            exact ⟨hq, by have := hall.1; omega⟩
    obtain ⟨els, xs, h1, h2, h3, h4, h5⟩ := each len (Nat.le_refl _)
    exact ⟨[.lst els.length els.flatten], All2.cons (h1 ▸ .lst a els.length cap els.flatten xs (by omega) hm h3.1 h3.2.1 h4 h3.2.2) rfl All2.nil, els, rfl, h5⟩
def Parts : List (List PV → Prop) → List PV → Prop
  | [], l => l = []
  | Q :: Qs, l => ∃ a r, l = a ++ r ∧ Q a ∧ Parts Qs r
def FieldsRd (P : Program) (w : World) : Nat → List Field → List (List PV → Prop) → Prop
  | off, [], [] => True
  | off, f :: fs, Q :: Qs => f.offset = off ∧ Rd P w f.type Q ∧ FieldsRd P w (off + P.cellsOf f.type) fs Qs
  | _, _, _ => False
def widths (P : Program) : Nat → List Field → Nat
  | off, [] => off
  | off, f :: fs => widths P (off + P.cellsOf f.type) fs
theorem fields_parts {H : Type} {enc : TypeId × Value → H} {n : Nat} {cs : List Value} : ∀ (fs : List Field) (Qs : List (List PV → Prop)) (off : Nat), FieldsRd P w off fs Qs → widths P off fs = cs.length →
    (∀ f ∈ fs, ∃ y, DataW.trod enc P w 0 (fun _ => true) true n f.type ((cs.drop f.offset).take (P.cellsOf f.type)) = some y) → ∃ pvs, All2 (rd w (old w)) pvs (cs.drop off) ∧ Parts Qs pvs
  | [], [], off, _, hw, _ => by
    simp only [widths] at hw
    refine ⟨[], ?_, rfl⟩
    rw [List.drop_eq_nil_of_le (by omega)]
    exact All2.nil
  | [], _ :: _, _, h, _, _ => h.elim
  | _ :: _, [], _, h, _, _ => h.elim
  | f :: fs, Q :: Qs, off, h, hw, hf => by
    obtain ⟨rfl, hr, hrest⟩ := h
    obtain ⟨y, hy⟩ := hf f (by simp)
    obtain ⟨pvs, hall, hq⟩ := hr H enc n _ y hy
    obtain ⟨qvs, hall2, hp⟩ := fields_parts fs Qs _ hrest (by simpa [widths] using hw) (fun f' hf' => hf f' (by simp [hf']))
    refine ⟨pvs ++ qvs, ?_, pvs, qvs, rfl, hq, hp⟩
    have := hall.append hall2
    rw [← List.drop_drop, List.take_append_drop] at this
    exact this
theorem Rd.struct {fs : Array Field} {Qs : List (List PV → Prop)} (ht : P.underlying t = some (.struct fs)) (hf : FieldsRd P w 0 fs.toList Qs) (hw : widths P 0 fs.toList = P.cellsOf t) : Rd P w t (Parts Qs) := by
  intro H enc fuel cs x h
  obtain ⟨xs, n, _, _, hlen, hxl, heach⟩ := DataW.trod_struct ht h
  have := fields_parts (H := H) (enc := enc) (n := n) (cs := cs) fs.toList Qs 0 hf (by rw [hw, hlen]) (fun f hf' => by
    obtain ⟨i, hi⟩ := List.getElem?_of_mem hf'
    have hi' : fs[i]? = some f := by simpa using hi
    have hlt : i < xs.length := by rw [hxl]; exact (Array.getElem?_eq_some_iff.1 hi').1
    exact ⟨_, (heach i f hi').trans (List.getElem?_eq_getElem hlt)⟩)
  rwa [List.drop_zero] at this
end
def ArgRd (P : Program) (w : World) (t : TypeId) (Q : PV → Prop) : Prop :=
  ∀ (H : Type) (enc : TypeId × Value → H) (base : Nat) (v : Value) (d : DataW H) (ps : List MemPlace), Value.okWide P w .any base t v → DataW.Trod enc P w 0 (fun _ => true) true t v d ps → ∃ p, Rep (rd w (old w)) p v ∧ Q p
theorem ArgRd.one {P : Program} {w : World} {t : TypeId} {Q : List PV → Prop} (hr : Rd P w t Q) (h1 : ∀ base v, Value.okWide P w .any base t v → v.cells = #[v]) (hq : ∀ l, Q l → ∃ p, l = [p]) : ArgRd P w t fun p => Q [p] := by
  intro H enc base v d ps hok hd
  obtain ⟨fuel, hf⟩ := hd
  obtain ⟨pvs, hall, hQ⟩ := hr H enc fuel _ _ hf
  rw [h1 base v hok] at hall
  obtain ⟨p, rfl⟩ := hq pvs hQ
  exact ⟨p, hall.2.2 0 p v rfl rfl, hQ⟩
section
variable {P : Program} {w : World} {t e : TypeId}
theorem ArgRd.int {k : IntKind} (ht : P.underlying t = some (.int k)) : ArgRd P w t fun p => ∃ n, p = .int k n ∧ k.min ≤ n ∧ n ≤ k.max := by
  intro H enc base v d ps hok hd
  obtain ⟨p, hp, n, hn, h⟩ := ArgRd.one (Rd.int (w := w) ht) (fun base v hok => by obtain ⟨n, rfl⟩ := okWide_int ht hok; rfl) (fun l ⟨n, hn, _⟩ => ⟨_, hn⟩) H enc base v d ps hok hd
  exact ⟨p, hp, n, by simpa using hn, h⟩
theorem ArgRd.bool (ht : P.underlying t = some .bool) : ArgRd P w t fun p => ∃ b, p = .bool b := by
  intro H enc base v d ps hok hd
  obtain ⟨p, hp, b, hb⟩ := ArgRd.one (Rd.bool (w := w) ht) (fun base v hok => by obtain ⟨n, rfl⟩ := okWide_bool ht hok; rfl) (fun l ⟨n, hn⟩ => ⟨_, hn⟩) H enc base v d ps hok hd
  exact ⟨p, hp, b, by simpa using hb⟩
theorem ArgRd.str (ht : P.underlying t = some .string) : ArgRd P w t fun p => ∃ s, p = .str s ∧ s.size ≤ maxLen := by
  intro H enc base v d ps hok hd
  obtain ⟨p, hp, b, hb, hs⟩ := ArgRd.one (Rd.str (w := w) ht) (fun base v hok => by obtain ⟨n, rfl⟩ := okWide_string ht hok; rfl) (fun l ⟨n, hn, _⟩ => ⟨_, hn⟩) H enc base v d ps hok hd
  exact ⟨p, hp, b, by simpa using hb, hs⟩
theorem ArgRd.slice {Q : List PV → Prop} {c : Nat} (ht : P.underlying t = some (.slice e)) (hc : P.cellsOf e = c) (he : Rd P w e Q) : ArgRd P w t fun p => ∃ els : List (List PV), p = .lst els.length els.flatten ∧ ∀ x ∈ els, Q x ∧ x.length = c := by
  intro H enc base v d ps hok hd
  obtain ⟨p, hp, els, hb, hs⟩ := ArgRd.one (Rd.slice (w := w) ht hc he) (fun base v hok => by obtain ⟨a, l, c, rfl⟩ := okWide_slice ht hok; rfl) (fun l ⟨n, hn, _⟩ => ⟨_, hn⟩) H enc base v d ps hok hd
  exact ⟨p, hp, els, by simpa using hb, hs⟩
theorem ArgRd.struct {fs : Array Field} {Qs : List (List PV → Prop)} (ht : P.underlying t = some (.struct fs)) (hf : FieldsRd P w 0 fs.toList Qs) (hw : widths P 0 fs.toList = P.cellsOf t) : ArgRd P w t fun p => ∃ l, p = .agg l ∧ Parts Qs l := by
  intro H enc base v d ps hok hd
  obtain ⟨cs, rfl, _⟩ := okWide_struct ht hok
  obtain ⟨fuel, hf'⟩ := hd
  obtain ⟨pvs, hall, hQ⟩ := Rd.struct ht hf hw H enc fuel _ _ hf'
  exact ⟨.agg pvs, All2.agg (by simpa [Value.cells] using hall), pvs, rfl, hQ⟩
end
def ArgsRd (P : Program) (w : World) : List TypeId → List (PV → Prop) → Prop
  | [], [] => True
  | t :: ts, Q :: Qs => ArgRd P w t Q ∧ ArgsRd P w ts Qs
  | _, _ => False
def Fits : List (PV → Prop) → List PV → Prop
  | [], [] => True
  | Q :: Qs, p :: ps => Q p ∧ Fits Qs ps
  | _, _ => False
theorem args_read {P : Program} {w : World} {H : Type} {enc : TypeId × Value → H} {base : Nat} : ∀ (ts : List TypeId) (Qs : List (PV → Prop)) (vs : List Value) (ds : List (DataW H)) (ps : List MemPlace), ArgsRd P w ts Qs →
    (∀ (j : Nat) t v, ts[j]? = some t → vs[j]? = some v → Value.okWide P w .any base t v) → DataW.TrodAll enc P w 0 (fun _ => true) true ts vs ds ps →
    ∃ pvs, pvs.length = vs.length ∧ Fits Qs pvs ∧ ∀ (j : Nat) p v, pvs[j]? = some p → vs[j]? = some v → Rep (rd w (old w)) p v
  | [], [], vs, ds, ps, _, _, h => by
    obtain ⟨rfl, rfl, rfl⟩ := trodAll_nil h
    exact ⟨[], rfl, trivial, fun j p v hp _ => by simp at hp⟩
  | [], _ :: _, _, _, _, h, _, _ => h.elim
  | _ :: _, [], _, _, _, h, _, _ => h.elim
  | t :: ts, Q :: Qs, vs, ds, ps, hr, hok, h => by
    obtain ⟨v, vs1, d, ds1, a, b, rfl, rfl, rfl, h1, h2⟩ := trodAll_cons h
    obtain ⟨p, hp, hq⟩ := hr.1 H enc base v d a (hok 0 t v rfl rfl) h1
    obtain ⟨pvs, hl, hfits, hreps⟩ := args_read ts Qs vs1 ds1 b hr.2 (fun j t' v' ht hv => hok (j + 1) t' v' (by simpa using ht) (by simpa using hv)) h2
    refine ⟨p :: pvs, by simp [hl], ⟨hq, hfits⟩, fun j q x hq' hx => ?_⟩
    cases j with
    | zero => cases hq'; cases hx; exact hp
    | succ j => exact hreps j q x (by simpa using hq') (by simpa using hx)
theorem Below.trodAll {H : Type} {enc : TypeId × Value → H} {P : Program} (hl : laidOutB P = true) {W W' : World} (hb : Below W.heap.size W W') : ∀ {ts : List TypeId} {vs : List Value} {ds : List (DataW H)} {ps : List MemPlace},
    (∀ t ∈ ts, P.readableRec t = true ∧ t < P.types.size) → DataW.TrodAll enc P W 0 (fun _ => true) true ts vs ds ps → (∀ x ∈ ps, x.block < W.heap.size) → DataW.TrodAll enc P W' 0 (fun b => decide (b < W.heap.size)) true ts vs ds ps
  | [], vs, ds, ps, _, h, _ => by
    obtain ⟨rfl, rfl, rfl⟩ := trodAll_nil h
    exact rfl
  | t :: ts, vs, ds, ps, hr, h, hlt => by
    obtain ⟨v, vs1, d, ds1, a, b, rfl, rfl, rfl, h1, h2⟩ := trodAll_cons h
    exact ⟨a, b, Below.trod hl (hr t (by simp)).1 (hr t (by simp)).2 h1 hb (fun x hx => hlt x (by simp [hx])), Below.trodAll hl hb (fun u hu => hr u (by simp [hu])) h2 (fun x hx => hlt x (by simp [hx])), rfl⟩
theorem law_post {H : Type} {enc : TypeId × Value → H} {P : Program} {f : Func} {s : ChangeSpec} {apart handsOn : Bool} {tb : TypeId} (hl : laidOutB P = true) (hr : ∀ t ∈ f.params.toList, P.readableRec t = true ∧ t < P.types.size) (hres : f.resultTypes = #[tb]) (htb : P.underlying tb = some .bool)
    (hs : s.vars = []) {W W' : World} {args : Array Value} {ds gs : List (DataW H)} {before : List MemPlace} (hfn : s.fn H (ds ++ gs) = { results := [.lit (.bool true)], args := ds }) (hW : DataW.Whole enc P f.params.toList s.vars apart W args.toList ds gs before)
    (hb : Below W.heap.size W W') : s.post enc P f apart true handsOn false W args (.bool true) W' := by
  have hlt : ∀ p ∈ before, p.block < W.heap.size := fun p hp => by simpa using hW.lt p hp
  have hW' := hW
  obtain ⟨p, q, h1, h2, hpq, h4, h5⟩ := hW'
  rw [hs] at h2
  obtain ⟨rfl, rfl⟩ := trodVars_none h2
  rw [List.append_nil] at hpq
  subst hpq
  refine ⟨ds, [], before, [], before, [], hW, ?_, ?_, ?_, hb.frame _, fun h => by cases h⟩
  · rw [hfn, hres]
    exact ⟨[], [], ⟨1, by simp [DataW.trod, htb, Value.cells]⟩, by simp [DataW.TrodAll], rfl⟩
  · rw [hfn]
    exact Below.trodAll hl hb hr h1 hlt
  · rw [hfn, hs]
    exact rfl
theorem Fits.length : ∀ {Qs : List (PV → Prop)} {ps : List PV}, Fits Qs ps → ps.length = Qs.length
  | [], [], _ => rfl
  | [], _ :: _, h => h.elim
  | _ :: _, [], h => h.elim
  | _ :: _, _ :: _, h => by simp [Fits.length h.2]
theorem trodAll_length {H : Type} {enc : TypeId × Value → H} {P : Program} {w : World} {b : Nat} {sp : Nat → Bool} {hd : Bool} : ∀ {ts : List TypeId} {vs : List Value} {ds : List (DataW H)} {ps : List MemPlace}, DataW.TrodAll enc P w b sp hd ts vs ds ps → vs.length = ts.length ∧ ds.length = ts.length
  | [], vs, ds, ps, h => by obtain ⟨rfl, rfl, rfl⟩ := trodAll_nil h; exact ⟨rfl, rfl⟩
  | t :: ts, vs, ds, ps, h => by
    obtain ⟨v, vs1, d, ds1, a, b, rfl, rfl, rfl, h1, h2⟩ := trodAll_cons h
    have := trodAll_length h2
    exact ⟨by simp [this.1], by simp [this.2]⟩
theorem law_contract {E : PE} {f : FuncId} {fn : Func} {s : ChangeSpec} {apart handsOn : Bool} {Qs : List (PV → Prop)} {tb : TypeId} (hl : laidOutB E.P = true) (hr : (fn.params.toList.all fun t => E.P.readableRec t && decide (t < E.P.types.size)) = true) (hres : fn.resultTypes = #[tb]) (htb : E.P.underlying tb = some .bool)
    (hs : s.vars = []) (hfn : ∀ (H : Type) (ds : List (DataW H)), ds.length = fn.params.toList.length → s.fn H ds = { results := [.lit (.bool true)], args := ds }) (hf : E.P.funcs[f]? = some fn) (hname : (fn.name == "runtime.NumGoroutine") = false) (hb : fn.body.isSome = true)
    (hA : ∀ w, ArgsRd E.P w fn.params.toList Qs) (hpc : ∀ pvs, Fits Qs pvs → PC E f pvs (.bool true))
    {H : Type} {enc : TypeId × Value → H} {W : World} {base : Nat} {args : Array Value} {ds gs : List (DataW H)} {before : List MemPlace} (hval : ∀ (j : Nat) t v, fn.params[j]? = some t → args[j]? = some v → Value.okWide E.P W .any base t v)
    (hW : DataW.Whole enc E.P fn.params.toList s.vars apart W args.toList ds gs before) (hG : ∀ g cs, E.G g = some cs → GRep (rd W (old W)) (.ref cs) (.pointer (some ⟨g, 0, none⟩)) (Whole W g cs.length)) :
    Calls E.P f args W fun e W' => ∃ v, e = .returned v ∧ s.post enc E.P fn apart true handsOn false W args v W' := by
  have hW' := hW
  obtain ⟨p, q, h1, h2, _, _, _⟩ := hW'
  rw [hs] at h2
  obtain ⟨rfl, rfl⟩ := trodVars_none h2
  obtain ⟨pvs, hlen, hfits, hreps⟩ := args_read fn.params.toList Qs args.toList ds p (hA W) (fun j t v ht hv => hval j t v (by simpa using ht) (by simpa using hv)) h1
  have hcall : (callFunc f args).run E.P W = .ok (.enter f args) W := by
    have h1 : fn.name ≠ "runtime.NumGoroutine" := by simpa using hname
    obtain ⟨c, hc⟩ := Option.isSome_iff_exists.1 hb
    simp [callFunc, hf, h1, hc]
  have := hpc pvs hfits W (old W) args (fun g o h => h) hG (by simpa using hlen.symm) (fun j p v hp hv => hreps j p v hp (by simpa using hv))
  rw [hcall] at this
  refine this.2.mono ?_
  rintro e W' ⟨v, rfl, hrep, hbel⟩
  refine ⟨v, rfl, ?_⟩
  rw [hrep.bool_inv]
  have hr' : ∀ t ∈ fn.params.toList, E.P.readableRec t = true ∧ t < E.P.types.size := fun t ht => by
    have := List.all_eq_true.1 hr t ht
    simpa using this
  exact law_post hl hr' hres htb hs (by rw [List.append_nil]; exact hfn H ds (trodAll_length h1).2) hW hbel
theorem laid_item {P : Program} {W : World} : ∀ {laid : List (String × DataW Unit)} {x : String × DataW Unit}, x ∈ laid → ∀ ps, DataW.LaidVars P W laid ps →
    ∃ g t cs fuel p, P.globalNamed x.1 = some g ∧ (P.globals[g]?).map (·.type) = some t ∧ W.var? P x.1 = some cs ∧ DataW.trod (fun _ => ()) P W 0 (fun _ => true) false fuel t cs.toList = some (x.2, p)
  | [], x, hx, ps, h => by cases hx
  | (n, d) :: r, x, hx, ps, h => by
    obtain ⟨g, t, cs, fuel, p, q, h1, h2, h3, h4, h5, _⟩ := h
    rcases List.mem_cons.1 hx with rfl | hx
    · exact ⟨g, t, cs, fuel, p, h1, h2, h3, h4⟩
    · exact laid_item hx q h5
theorem glob_tab {P : Program} {W : World} {name : String} {k : IntKind} {zs : List Int} {laid : List (String × DataW Unit)} {g : Nat} {t e : TypeId} {n : Nat} (hmem : (name, Lib.tabData k zs) ∈ laid) (h : laidMet P laid W)
    (hg : P.globalNamed name = some g) (hty : (P.globals[g]?).map (·.type) = some t) (ht : P.underlying t = some (.array n e)) (he : P.underlying e = some (.int k)) (hce : P.cellsOf e = 1) (hct : P.cellsOf t = n) (hz : zs ≠ []) :
    GRep (rd W (old W)) (.ref (zs.map (PV.int k))) (.pointer (some ⟨g, 0, none⟩)) (Whole W g (zs.map (PV.int k)).length) := by
  obtain ⟨ps, hl, _⟩ := h
  obtain ⟨g', t', cs, fuel, p, h1, h2, h3, h4⟩ := laid_item hmem ps hl
  obtain rfl := Option.some.inj (hg.symm.trans h1)
  obtain rfl := Option.some.inj (hty.symm.trans h2)
  have hcs := Lib.cells_of_tab ht he hce hct h4
  simp only at h1 h3
  have hb : ∃ u fr, W.heap[g]? = some (.cells cs u fr) := by
    unfold World.var? at h3
    rw [h1] at h3
    simp only [Option.bind_some] at h3
    split at h3
    · rename_i cs' u fr hh
      cases h3
      exact ⟨u, fr, hh⟩
    · cases h3
  obtain ⟨u, fr, hb⟩ := hb
  have hlen : cs.size = zs.length := by rw [← Array.length_toList, hcs, List.length_map]
  refine ⟨.ref _ _ (zs.map (Value.int k)) (by simp) (fun j x hx => ?_) (fun j x hx => ?_) (fun j c x hc hx => ?_), ?_, cs, u, fr, hb, by rw [hlen, List.length_map]⟩
  · rw [List.getElem?_map, Option.map_eq_some_iff] at hx
    obtain ⟨z, _, rfl⟩ := hx
    rfl
  · rw [addr_add, Nat.zero_add]
    refine rd_old ?_
    simp only [World.cell?, hb]
    rw [← hcs] at hx
    simpa using hx
  · rw [List.getElem?_map, Option.map_eq_some_iff] at hx hc
    obtain ⟨z, hz1, rfl⟩ := hx
    obtain ⟨z', hz2, rfl⟩ := hc
    rw [hz1] at hz2; cases hz2
    exact .int _ _
  · rw [List.length_map]
    exact fun h0 => hz (List.eq_nil_of_length_eq_zero h0)
end
end PG
namespace Go.Proofs.YtfkgaldbcngliaaGreatDoor
attribute [local go_sem] Lay2 Lay3 Lay4 Lay5 Lay6 Lay7 Lay8 Lay9 Lay10 Lay11 Lay12 Lay13 Lay14 Lay15 Lay16 Lay17 Lay18 Lay19 Lay20 Lay21 Lay22 Lay26 Lay27 Lay28 Lay29 Lay31 Lay32 Lay33 Lay34 Lay35 Lay41 Lay42 Lay43 Lay47 Lay48 Lay60 Lay61 Lay62 Lay63 Lay64 Lay72 Lay73 Lay74 Lay83 Lay84 Lay86 Lay90 Lay91 Lay92 Lay93 Lay102 Lay103 Lay139 Lay143 Lay149 Lay158 Lay159 Lay160 Lay161 Lay162 Lay174 Lay175 Lay193 Lay207 Lay208 Lay209 Lay210 Lay228 Lay229 Lay237 Lay238 Lay265 Lay287 Lay295 Lay296 Lay297 Lay299 Lay301 Lay302 Lay303 Lay304 Lay305 Lay307 Lay308 Lay310 Lay311 Lay312 Lay315 Lay316 Lay317 qexec_seq qexec_skip qexec_exit qexec_ret qexec_block qexec_loop qexec_range qexec_cond qexec_region qexec_drawn qops_nil qops_none qops_some put_some put_none pblk_exit pblk_other newDsts_nil inlDsts_nil isInl sget_cons sget_nil qval_some qbool_some qgs_bool qgs_und qfree_some qgrd_true qgrd_false qif_true qif_false qval_ite qval_itn qand_true map_ite map_some' map_none' qdo_move qdo_assign qdo_binOp qdo_pick qdo_unOp qdo_convert qdo_extract qdo_makeInterface qdo_field qdo_fieldAddr qdo_alloc qdo_box qdo_build qdo_buildSlice qdo_load qdo_store qdo_nilCheck qdo_makeFunc qdo_makeSlice qdo_slice qdo_indexAddr qdo_call qcont_val qcont_new qcont_st qcont_app0 qcont_app qcont_inl qcont_call njSV_val njSV_nil njSV_row njSV_ptr njSV_sub binV_val binV_nil binV_nn binV_ptr bin_np bin_nnp nilCmp bin_add bin_sub bin_mul bin_quo bin_rem bin_and bin_or bin_xor bin_andNot bin_eql bin_neq bin_lss bin_leq bin_gtr bin_geq bin_shl bin_shr bin_seql bin_sneq bin_sadd bin_beql bin_aeql bin_aneq eqAnd_some eqCells_nil eqCells_cons fieldTypes isStruct eqCell bin_bneq un_not un_neg nj_ite Nat.beq stepA stepR isNew opSV constSV RV.sv allSome E_mu E_own qkeyIn_none qkeyIn_some qkeyAt_none qkeyAt_some Bool.or_false Bool.false_or Bool.or_true Bool.true_or cst setB res resSV pstart startL killL kill1 eraL frzL svPV rvPV rvInt rvSlice rvBytes frzOf close closeL pconv pbuiltin pmax2 partPV setCells fillPV zrow bound newSV PV.cells Bk.cells Bk.with SV.key pres presL_nil presL_tmp presL_cell presC2_some cellPV_ptr presC List.toList_toArray List.size_toArray List.getElem?_drop Nat.mul_one Int.toNat_natCast Nat.not_lt_zero Nat.lt_irrefl decide_true decide_false Nat.not_lt Option.some.injEq PV.lst.injEq PV.int.injEq PV.bool.injEq PV.tuple.injEq List.cons.injEq Option.map_some Option.map_none Option.bind_some Option.toList List.map_cons List.map_nil List.nil_append List.cons_append List.append_nil List.zip_cons_cons List.zip_nil_left List.zip_nil_right List.getElem?_cons_zero List.getElem?_cons_succ List.drop_zero List.drop_succ_cons List.take_succ_cons List.take_zero List.set_cons_zero List.set_cons_succ List.length_cons List.length_nil List.length_set List.replicate_one List.replicate_zero bne_self_eq_false beq_self_eq_true Nat.zero_add Nat.add_zero Nat.zero_mul Bool.false_eq_true Bool.true_eq_false Bool.not_true Bool.not_false and_true true_and false_and and_false or_false false_or or_true true_or not_true_eq_false not_false_eq_true ne_eq gt_iff_lt List.mem_cons List.not_mem_nil
attribute [local go_sem ↓] pseq_normal pseq_ret pseq_exit pblk_normal pblk_ret newDsts_cons inlDsts_cons gdst_zero gdst_succ retQ_normal retQ_ret qneed_nil qneed_cons retM_normal retM_ret endR_normal endR_ret endR_exit
attribute [local go_sem] Int.reduceToNat Int.reduceEq Int.reduceNe Int.reduceLT Int.reduceLE Int.reduceNeg Int.reduceAdd Nat.reduceEqDiff Nat.reduceAdd Nat.reduceSub Nat.reduceMul Nat.reduceLeDiff Nat.reduceLT
attribute [local go_sem ↓] reduceIte reduceCtorEq
section
open Go PG Go.Proofs Go.RowKit
theorem fits_cons {Q : PV → Prop} {Qs : List (PV → Prop)} {pvs : List PV} (h : Fits (Q :: Qs) pvs) : ∃ p ps, pvs = p :: ps ∧ Q p ∧ Fits Qs ps := by
  cases pvs with
  | nil => exact h.elim
  | cons p ps => exact ⟨p, ps, rfl, h.1, h.2⟩
theorem fits_nil {pvs : List PV} (h : Fits [] pvs) : pvs = [] := by
  cases pvs with
  | nil => rfl
  | cons p ps => exact h.elim
theorem fitsO1 {Q1 : PV → Prop} {pvs : List PV} (h : Fits [Q1] pvs) : ∃ p, pvs = [p] ∧ Q1 p := by
  obtain ⟨p, ps, rfl, h1, h⟩ := fits_cons h
  rw [fits_nil h]; exact ⟨p, rfl, h1⟩
theorem fits2 {Q1 Q2 : PV → Prop} {pvs : List PV} (h : Fits [Q1, Q2] pvs) : ∃ p q, pvs = [p, q] ∧ Q1 p ∧ Q2 q := by
  obtain ⟨p, ps, rfl, h1, h⟩ := fits_cons h
  obtain ⟨q, rfl, h2⟩ := fitsO1 h; exact ⟨p, q, rfl, h1, h2⟩
def qInt (p : PV) : Prop := ∃ n : Int, p = .int .i64 n ∧ -9223372036854775808 ≤ n ∧ n < 9223372036854775808
def qU64 (p : PV) : Prop := ∃ n : Nat, p = u n ∧ n < W
def qU16 (p : PV) : Prop := ∃ n : Nat, p = .int .u16 n ∧ n < 65536
def qU8 (p : PV) : Prop := ∃ n : Nat, p = .int .u8 n ∧ n < 256
def qBool (p : PV) : Prop := ∃ b, p = .bool b
def qU64s (p : PV) : Prop := ∃ l : List Nat, p = NL l ∧ Ok W l
theorem arg_imp {P : Program} {w : World} {t : TypeId} {Q Q' : PV → Prop} (h : ArgRd P w t Q) (hq : ∀ p, Q p → Q' p) : ArgRd P w t Q' :=
  fun H enc base v d ps hok hd => let ⟨p, hp, hQ⟩ := h H enc base v d ps hok hd; ⟨p, hp, hq p hQ⟩
theorem globals_met {W : World} (h : laidMetH Tryz.prog [("math/bits.deBruijn64tab", Rows.laid_math_bits_deBruijn64tab)] W) : ∀ g cs, E.G g = some cs → GRep (rd W (old W)) (.ref cs) (.pointer (some ⟨g, 0, none⟩)) (Whole W g cs.length) := by
  rw [MakeChecks.laidMetH_plain _ _ _ (by kernel_rfl)] at h
  intro g cs hg
  have hg' : (if g = 0 then some deBruijn else none) = some cs := hg
  split at hg'
  · rename_i e
    subst e
    cases hg'
    have hd : (Rows.laid_math_bits_deBruijn64tab : DataW Unit) = Lib.tabData .u8 (Lib.deBruijn64tab.map fun n : Nat => (n : Int)) := by
      unfold Rows.laid_math_bits_deBruijn64tab Lib.tabData
      kernel_rfl
    rw [hd] at h
    rw [show deBruijn = (Lib.deBruijn64tab.map fun n : Nat => (n : Int)).map (PV.int .u8) by simp [deBruijn, Function.comp_def]]
    exact glob_tab (t := 287) (n := 64) (e := 5) (List.mem_cons_self) h (by kernel_rfl) (by kernel_rfl) (by kernel_rfl) (by kernel_rfl) (by kernel_rfl) (by kernel_rfl) (by decide)
  cases hg'
end
section
section
open Go PG Go.Proofs Go.RowKit
def qD (p : PV) : Prop := ∃ (s : Bool) (l : List Nat) (e : Int), p = DP s (NL l) e ∧ Ok W l ∧ -9223372036854775808 ≤ e ∧ e < 9223372036854775808
end
section
open Go PG Go.Proofs
theorem mkD_self {d : Dy} (h : d.m % 2 = 1) (h1 : -2147483648 ≤ d.e) (h2 : d.e ≤ 2147483648) : mkD d.s d.m d.e = d := by
  have ht : tz d.m = 0 := tz_of (m := d.m / 2) (by rw [Nat.pow_zero, Nat.one_mul]; omega)
  unfold mkD
  rw [if_neg (by omega), ht, cut_id h1 h2]
  obtain ⟨s, m, e⟩ := d
  simp
end
section
open Go PG Go.Proofs
theorem mkD_shift {s : Bool} {m j : Nat} {t : Int} (h : m % 2 = 1) (h1 : -2147483648 ≤ t) (h2 : t ≤ 2147483648) : mkD s (m * 2 ^ j) t = ⟨s, m, t + j⟩ := by
  have hp := Nat.two_pow_pos j
  have ht : tz (m * 2 ^ j) = j := tz_of (m := m / 2) (by rw [Nat.mul_comm, show 2 * (m / 2) + 1 = m by omega])
  have h0 : m * 2 ^ j ≠ 0 := Nat.mul_ne_zero (by omega) (by omega)
  unfold mkD
  rw [if_neg h0, ht, cut_id h1 h2, Nat.mul_div_cancel _ hp]
theorem withS_fields (s : Bool) {b : Nat} (hb : b < 9223372036854775808) : withS s b < W ∧ fs (withS s b) = s ∧ fe (withS s b) = fe b ∧ ff (withS s b) = ff b ∧ fsz (withS s b) = b := by
  show withS s b < 18446744073709551616 ∧ _
  unfold withS fs fe ff fsz
  cases s
  · simp only [Bool.false_eq_true, if_false]
    exact ⟨by omega, decide_eq_false (by omega), trivial, trivial, by omega⟩
  · simp only [if_true]
    exact ⟨by omega, decide_eq_true (by omega), by omega, by omega, by omega⟩
theorem unit_range {d : Dy} (h : d.top ≤ 1023) : -1074 ≤ unitOf d.top ∧ unitOf d.top ≤ 971 := by unfold unitOf; omega
theorem pack_fields {M : Nat} {t : Int} (hM : M < 9007199254740992) (h1 : -1074 ≤ t) (h2 : t ≤ 971) (hs : M < 4503599627370496 → t = -1074) :
    fe (packB M t) < 2047 ∧ fm (packB M t) = M ∧ max (fe (packB M t) : Int) 1 - 1075 = t := by
  unfold packB
  by_cases h : 4503599627370496 ≤ M
  · rw [if_pos h]
    have e1 : fe (M - 4503599627370496 + (t + 1075).toNat * 4503599627370496) = (t + 1075).toNat := by unfold fe; omega
    have e2 : ff (M - 4503599627370496 + (t + 1075).toNat * 4503599627370496) = M - 4503599627370496 := by unfold ff; omega
    unfold fm
    rw [e1, e2, if_neg (by omega)]
    omega
  · rw [if_neg h]
    have ht := hs (by omega)
    have e1 : fe M = 0 := by unfold fe; omega
    have e2 : ff M = M := by unfold ff; omega
    unfold fm
    rw [e1, e2, if_pos rfl]
    omega
theorem exact_fd {d : Dy} (h : d.m % 2 = 1) (h1 : d.top ≤ 1023) (h2 : unitOf d.top ≤ d.e) :
    ∃ b, exactS d = some b ∧ b < W ∧ fe b < 2047 ∧ fd b = d ∧ fs b = d.s := by
  have h0 : d.m ≠ 0 := by omega
  have hM := exact_bits h0 h2
  have hlt : d.m * 2 ^ (d.e - unitOf d.top).toNat < 9007199254740992 := (bitLen_le _ 53).1 hM
  have hr := unit_range h1
  have hbl := bitLen_shl d.m (d.e - unitOf d.top).toNat h0
  have htop : d.top = bitLen d.m - 1 + d.e := if_neg h0
  have hu : unitOf d.top = max (d.top - 52) (-1074) := rfl
  have hp := pack_fields hlt hr.1 hr.2 (fun hlt2 => by
    have := (bitLen_le (d.m * 2 ^ (d.e - unitOf d.top).toNat) 52).2 hlt2
    omega)
  have hpl := packB_lt hlt hr.1 hr.2
  have hw := withS_fields d.s hpl
  refine ⟨_, by unfold exactS; rw [if_neg h0, if_neg (by omega)], hw.1, by rw [hw.2.2.1]; exact hp.1, ?_, hw.2.1⟩
  unfold fd
  have hfm : fm (withS d.s (packB (d.m * 2 ^ (d.e - unitOf d.top).toNat) (unitOf d.top))) = d.m * 2 ^ (d.e - unitOf d.top).toNat := by
    unfold fm
    rw [hw.2.2.1, hw.2.2.2.1]
    exact hp.2.1
  rw [hfm, hw.2.1, hw.2.2.1, hp.2.2, mkD_shift h (by omega) (by omega)]
  obtain ⟨s, m, e⟩ := d
  simp only at *
  rw [show unitOf (Dy.top ⟨s, m, e⟩) + ((e - unitOf (Dy.top ⟨s, m, e⟩)).toNat : Int) = e by omega]
end
section
open Go PG Go.Proofs
theorem qif_b {b : Bool} {X Y : PT} (h1 : b = true → X.p) (h2 : b = false → Y.p) : @qif b X Y := ⟨h1, h2⟩
def bNaN : Nat := 9221120237041090560
def bInf : Nat := 9218868437227405312
def bOne : Nat := 4607182418800017408
def bTop : Nat := 9223372036854775808
def bMinusOne : Nat := 13830554455654793216
def sgd (b x : Nat) (odd : Bool) : Nat := if odd = true ∧ fs x = true then b + 9223372036854775808 else b
def resPV (o : Option (Nat × Nat)) : PV := match o with
  | some (b, f) => .tuple [.agg [.int .u64 b, .int .u8 f, .int .i64 0], .bool true]
  | none => .tuple [.agg [.int .u64 0, .int .u8 0, .int .i64 0], .bool false]
def wh (b : Nat) : Bool := decide (fe b < 2047 ∧ 0 ≤ (fd b).e)
def od (b : Nat) : Bool := decide (fe b < 2047 ∧ (fd b).e = 0 ∧ (fd b).m % 2 = 1)
theorem kind_le (b : Nat) : kind b ≤ 5 := by unfold kind; repeat' split
                                             all_goals omega
theorem c_signals (x : Nat) (hx : x < W) : PC E 89 [u x] (.bool (decide (kind x = 5))) := by
  refine PC.of_body follows Tryz.func89 (by decide +kernel) rfl (by kernel_rfl) (Nat.le_of_ble_eq_true rfl) (walk ?_)
  simp only [Tryz.f89, go_sem]
  refine qcall_i (c_Kind x hx) ?_; simp only [Tryz.f89, go_sem]
  exact decide_eq_decide.2 (by omega)
theorem c_nought (x : Nat) (hx : x < W) : PC E 129 [u x] (.bool (decide (kind x = 0))) := by
  refine PC.of_body follows Tryz.func129 (by decide +kernel) rfl (by kernel_rfl) (Nat.le_of_ble_eq_true rfl) (walk ?_)
  simp only [Tryz.f129, go_sem]
  refine qcall_i (c_Kind x hx) ?_; simp only [Tryz.f129, go_sem]
  exact decide_eq_decide.2 (by omega)
theorem c_infinite (x : Nat) (hx : x < W) : PC E 130 [u x] (.bool (decide (kind x = 3))) := by
  refine PC.of_body follows Tryz.func130 (by decide +kernel) rfl (by kernel_rfl) (Nat.le_of_ble_eq_true rfl) (walk ?_)
  simp only [Tryz.f130, go_sem]
  refine qcall_i (c_Kind x hx) ?_; simp only [Tryz.f130, go_sem]
  exact decide_eq_decide.2 (by omega)
theorem c_nan (x : Nat) (hx : x < W) : PC E 92 [u x] (.bool (decide (kind x = 4 ∨ kind x = 5))) := by
  refine PC.of_body follows Tryz.func92 (by decide +kernel) rfl (by kernel_rfl) (Nat.le_of_ble_eq_true rfl) (walk ?_)
  simp only [Tryz.f92, go_sem]
  refine qcall_i (c_Kind x hx) ?_; simp only [Tryz.f92, go_sem]
  have := kind_le x
  exact decide_eq_decide.2 (by omega)
theorem c_is (b : Nat) : PC E 91 [u b] (resPV (some (b, 0))) := by
  refine PC.of_body follows Tryz.func91 (by decide +kernel) rfl (by kernel_rfl) (Nat.le_of_ble_eq_true rfl) (walk ?_)
  simp only [Tryz.f91, u, go_sem]
  rfl
theorem c_flagged (b f : Nat) : PC E 131 [u b, .int .u8 f] (resPV (some (b, f))) := by
  refine PC.of_body follows Tryz.func131 (by decide +kernel) rfl (by kernel_rfl) (Nat.le_of_ble_eq_true rfl) (walk ?_)
  simp only [Tryz.f131, u, go_sem]
  rfl
theorem c_invalid : PC E 90 [] (resPV (some (bNaN, 16))) := by
  refine PC.of_body follows Tryz.func90 (by decide +kernel) rfl (by kernel_rfl) (Nat.le_of_ble_eq_true rfl) (walk ?_)
  simp only [Tryz.f90, go_sem]
  refine qcall_i (c_flagged bNaN 16) ?_; simp only [Tryz.f90, resPV, go_sem]
theorem c_signed (b x : Nat) (hb : b < 9223372036854775808) (hx : x < W) (odd : Bool) : PC E 132 [u b, u x, .bool odd] (u (sgd b x odd)) := by
  refine PC.of_body follows Tryz.func132 (by decide +kernel) rfl (by kernel_rfl) (Nat.le_of_ble_eq_true rfl) (walk ?_)
  have e1 := a63 hx
  have e2 := o63 hb
  have e3 : bits .or .u64 (b : Int) ((0 : Nat) : Int) = (b : Int) := (b_or (b := 0) (Nat.lt_trans hb (by decide)) (by decide)).trans (by rw [Nat.or_zero])
  unfold sgd fs
  cases odd
  · simp only [Tryz.f132, u, go_sem]
  · by_cases h : 9223372036854775808 ≤ x
    · rw [if_pos h] at e1
      simp only [Tryz.f132, u, e1, Int.cast_ofNat_Int, e2, go_sem]
      simp [h]
    · rw [if_neg h] at e1
      simp only [Tryz.f132, u, e1, e3, go_sem]
      simp [h]
theorem c_below (x : Nat) (hx : x < W) : PC E 98 [u x] (.bool (fs x && !decide (kind x = 0))) := by
  refine PC.of_body follows Tryz.func98 (by decide +kernel) rfl (by kernel_rfl) (Nat.le_of_ble_eq_true rfl) (walk ?_)
  simp only [Tryz.f98, go_sem]
  refine qcall_i (c_Neg x hx) ?_; simp only [Tryz.f98, go_sem]
  cases hs : fs x
  · simp only [Tryz.f98, go_sem]
    rfl
  · simp only [Tryz.f98, go_sem]
    refine qcall_i (c_nought x hx) ?_; simp only [Tryz.f98, go_sem]
    rfl
def powS (x y : Nat) : Option (Nat × Nat) :=
  if kind x = 5 ∨ kind y = 5 then some (bNaN, 16)
  else if kind y = 0 ∨ x = 4607182418800017408 then some (bOne, 0)
  else if kind x = 4 ∨ kind y = 4 then some (bNaN, 0)
  else if kind x = 0 then
    if fs y = true then (if kind y = 3 then some (bInf, 0) else some (sgd bInf x (od y), 8))
    else some (sgd 0 x (od y), 0)
  else if kind y = 3 then
    if x = 13830554455654793216 then some (bOne, 0) else if (decide (4607182418800017408 < fsz x) != fs y) = true then some (bInf, 0) else some (0, 0)
  else if kind x = 3 then if fs y = true then some (sgd 0 x (od y), 0) else some (sgd bInf x (od y), 0)
  else if fs x = true ∧ wh y = false then some (bNaN, 16) else none
theorem c_Whole' (b : Nat) (hb : b < W) : PC E 72 [u b] (.tuple [.bool (wh b), .bool (od b)]) := c_Whole b hb
set_option maxHeartbeats 600000 in
theorem c_Pow (x y : Nat) (hx : x < W) (hy : y < W) : PC E 70 [u x, u y] (resPV (powS x y)) := by
  obtain ⟨R, hR⟩ : ∃ R, R = resPV (powS x y) := ⟨_, rfl⟩
  rw [← hR]
  refine PC.of_body follows Tryz.func70 (by decide +kernel) rfl (by kernel_rfl) (Nat.le_of_ble_eq_true rfl) (walk ?_)
  have e1 := n63 hx
  have q1 : ((x : Int) = 4607182418800017408) = (x = 4607182418800017408) := by rw [← Int.ofNat_inj]; rfl
  have q2 : ((x : Int) = 13830554455654793216) = (x = 13830554455654793216) := by rw [← Int.ofNat_inj]; rfl
  have q3 : ((fsz x : Int) > 4607182418800017408) = (4607182418800017408 < fsz x) := by rw [← Int.ofNat_lt]; rfl
  have k1 := c_signals x hx
  have k2 := c_signals y hy
  have k3 := c_nought x hx
  have k4 := c_nought y hy
  have k5 := c_nan x hx
  have k6 := c_nan y hy
  have k7 := c_infinite x hx
  have k8 := c_infinite y hy
  have k9 := c_Neg x hx
  have k10 := c_signed bInf x (by decide) hx (od y)
  have k11 := c_signed 0 x (by decide) hx (od y)
  have k12 := c_flagged (sgd bInf x (od y)) 8
  have k13 := c_is (sgd bInf x (od y))
  have k14 := c_is (sgd 0 x (od y))
  have k15 : PC E 91 [.int .u64 4607182418800017408] (resPV (some (bOne, 0))) := c_is bOne
  have k16 : PC E 91 [.int .u64 9221120237041090560] (resPV (some (bNaN, 0))) := c_is bNaN
  have k17 : PC E 91 [.int .u64 9218868437227405312] (resPV (some (bInf, 0))) := c_is bInf
  have k18 : PC E 91 [.int .u64 0] (resPV (some (0, 0))) := c_is 0
  have k19 := c_invalid
  replace k10 : PC E 132 [.int .u64 9218868437227405312, .int .u64 x, .bool (od y)] (.int .u64 (sgd bInf x (od y) : Nat)) := k10
  replace k11 : PC E 132 [.int .u64 0, .int .u64 x, .bool (od y)] (.int .u64 (sgd 0 x (od y) : Nat)) := k11
  replace k12 : PC E 131 [.int .u64 (sgd bInf x (od y) : Nat), .int .u8 8] (resPV (some (sgd bInf x (od y), 8))) := k12
  simp only [u] at k1 k2 k3 k4 k5 k6 k7 k8 k9 k13 k14
  simp only [Tryz.f70, u, go_sem]
  refine qcall_i (c_Whole' y hy) ?_; simp only [Tryz.f70, u, e1, go_sem]
  refine qcall_i (c_Neg y hy) ?_; simp only [Tryz.f70, u, go_sem]
  unfold powS at hR
  generalize kind x = a at *
  generalize kind y = b at *
  generalize wh y = w at *
  generalize od y = o at *
  generalize fs y = s at *
  generalize sgd bInf x o = g1 at *
  generalize sgd 0 x o = g2 at *
  clear e1
  clear hx hy
  repeat' first
    | (with_reducible refine qif_b (fun h => ?_) (fun h => ?_) <;> (try simp only [h] at k1 k2 k3 k4 k5 k6 k7 k8 k9) <;> simp only [Tryz.f70, h, u, resPV, q1, q2, q3, go_sem])
    | (with_reducible refine qcall_i k1 ?_; simp only [Tryz.f70, u, resPV, q1, q2, q3, go_sem])
    | (with_reducible refine qcall_i k2 ?_; simp only [Tryz.f70, u, resPV, q1, q2, q3, go_sem])
    | (with_reducible refine qcall_i k3 ?_; simp only [Tryz.f70, u, resPV, q1, q2, q3, go_sem])
    | (with_reducible refine qcall_i k4 ?_; simp only [Tryz.f70, u, resPV, q1, q2, q3, go_sem])
    | (with_reducible refine qcall_i k5 ?_; simp only [Tryz.f70, u, resPV, q1, q2, q3, go_sem])
    | (with_reducible refine qcall_i k6 ?_; simp only [Tryz.f70, u, resPV, q1, q2, q3, go_sem])
    | (with_reducible refine qcall_i k7 ?_; simp only [Tryz.f70, u, resPV, q1, q2, q3, go_sem])
    | (with_reducible refine qcall_i k8 ?_; simp only [Tryz.f70, u, resPV, q1, q2, q3, go_sem])
    | (with_reducible refine qcall_i k9 ?_; simp only [Tryz.f70, u, resPV, q1, q2, q3, go_sem])
    | (with_reducible refine qcall_i k10 ?_; simp only [Tryz.f70, u, resPV, q1, q2, q3, go_sem])
    | (with_reducible refine qcall_i k11 ?_; simp only [Tryz.f70, u, resPV, q1, q2, q3, go_sem])
    | (with_reducible refine qcall_i k12 ?_; simp only [Tryz.f70, u, resPV, q1, q2, q3, go_sem])
    | (with_reducible refine qcall_i k13 ?_; simp only [Tryz.f70, u, resPV, q1, q2, q3, go_sem])
    | (with_reducible refine qcall_i k14 ?_; simp only [Tryz.f70, u, resPV, q1, q2, q3, go_sem])
    | (with_reducible refine qcall_i k15 ?_; simp only [Tryz.f70, u, resPV, q1, q2, q3, go_sem])
    | (with_reducible refine qcall_i k16 ?_; simp only [Tryz.f70, u, resPV, q1, q2, q3, go_sem])
    | (with_reducible refine qcall_i k17 ?_; simp only [Tryz.f70, u, resPV, q1, q2, q3, go_sem])
    | (with_reducible refine qcall_i k18 ?_; simp only [Tryz.f70, u, resPV, q1, q2, q3, go_sem])
    | (with_reducible refine qcall_i k19 ?_; simp only [Tryz.f70, u, resPV, q1, q2, q3, go_sem])
    | (with_reducible refine Eq.trans ?_ hR.symm; clear k1 k2 k3 k4 k5 k6 k7 k8 k9 k10 k11 k12 k13 k14 k15 k16 k17 k18 k19 q1 q2 q3 hR; simp_all [resPV]; done)
end
section
open Go PG Go.Proofs
def ansPV (o : Option (Nat × Nat)) : PV := match o with
  | some (b, f) => .agg [.int .u64 b, .int .i64 f, .bool true]
  | none => .agg [.int .u64 0, .int .i64 0, .bool false]
theorem kind_num (b : Nat) : 2 < kind b ↔ ¬ fe b < 2047 := by
  unfold kind
  repeat' split
  all_goals omega
theorem c_rOdd (b : Nat) (hb : b < W) : PC E 83 [u b] (.tuple [.bool (od b), .bool (wh b)]) := by
  refine PC.of_body follows Tryz.func83 (by decide +kernel) rfl (by kernel_rfl) (Nat.le_of_ble_eq_true rfl) (walk ?_)
  have h := c_Worth b hb
  have hk := kind_num b
  have ho := fd_ok b
  simp only [Tryz.f83, go_sem]
  refine qcall_i (c_rKind b hb) ?_; simp only [Tryz.f83, go_sem]
  unfold od wh
  by_cases hf : fe b < 2047
  · refine qif_df (by omega) ?_
    simp only [Tryz.f83, go_sem]
    generalize fd b = d at *
    refine qcall_i (h) ?_; simp only [Tryz.f83, Dy.nv, DP, VN, VL, go_sem]
    refine qif_d (fun h0 => ?_) (fun h0 => ?_)
    · simp only [Tryz.f83, go_sem]
      have hm : (0 < (dg B d.m).length) ↔ d.m % 2 = 1 := by
        constructor
        · intro h1
          rcases ho with h2 | h2
          · rw [h2] at h1; exact absurd h1 (by decide)
          · exact h2
        · intro h1
          rcases Nat.eq_zero_or_pos (dg B d.m).length with h2 | h2
          · have := dgB_nil h2; omega
          · exact h2
      refine ⟨decide_eq_decide.2 ?_, decide_eq_decide.2 ?_⟩
      · exact ⟨fun h1 => ⟨hf, h0, hm.1 (by omega)⟩, fun h1 => by have := hm.2 h1.2.2; omega⟩
      · exact ⟨fun h1 => ⟨hf, by omega⟩, fun h1 => by omega⟩
    · simp only [Tryz.f83, go_sem]
      refine ⟨(decide_eq_false (fun h1 => h0 h1.2.1)).symm, decide_eq_decide.2 ?_⟩
      exact ⟨fun h1 => ⟨hf, by omega⟩, fun h1 => by omega⟩
  · refine qif_dt (by omega) ?_
    simp only [Tryz.f83, go_sem]
    exact ⟨(decide_eq_false (fun h1 => hf h1.1)).symm, (decide_eq_false (fun h1 => hf h1.1)).symm⟩
theorem fsz_W (b : Nat) : fsz b < W := Nat.lt_trans (fsz_lt b) (by decide)
theorem c_less (b : Nat) (hb : b < W) (hk : kind b ≤ 3) : PC E 149 [u b] (.int .i64 (sgn (fsz b) 4607182418800017408)) := by
  refine PC.of_body follows Tryz.func149 (by decide +kernel) rfl (by kernel_rfl) (Nat.le_of_ble_eq_true rfl) (walk ?_)
  have hl := fsz_lt b
  simp only [Tryz.f149, go_sem]
  refine qcall_i (c_rSize b hb) ?_; simp only [Tryz.f149, u, go_sem]
  refine qif_d (fun h => ?_) (fun h => ?_)
  · simp only [Tryz.f149, go_sem]
    unfold sgn
    rw [if_neg (by omega), if_pos (by omega)]
  · have k1 := c_Worth (fsz b) (fsz_W b)
    have e := fd_e (fsz b)
    have b1 := fd_bits (fsz b)
    have k2 := c_5Cmp (fd (fsz b)) (fd 4607182418800017408) (by omega) (by rw [fd_one]; decide) (by omega) (by rw [fd_one]; decide) (fun _ _ _ => by rw [fd_one]; show (fd (fsz b)).e - 0 ≤ 1000000 ∧ 0 - (fd (fsz b)).e ≤ 1000000; omega)
    rw [fd_cmp hl (by decide), fd_one] at k2
    have hd1 : dg B 1 = [1] := by rw [dg_eq B2, if_neg (by decide)]; rfl
    simp only [Dy.nv, DP, VN, VL, hd1] at k1 k2
    simp only [Tryz.f149, go_sem]
    refine qcall_i (k1) ?_; simp only [Tryz.f149, go_sem]
    refine qcall_i (k2) ?_; simp only [Tryz.f149, go_sem]
    rfl
theorem c_rsign (x : Nat) (odd : Bool) : PC E 148 [u x, .bool odd] (.int .u64 (sgd 0 x odd : Nat)) := by
  refine PC.of_body follows Tryz.func148 (by decide +kernel) rfl (by kernel_rfl) (Nat.le_of_ble_eq_true rfl) (walk ?_)
  unfold sgd fs
  cases odd
  · simp only [Tryz.f148, u, go_sem]
    rfl
  · simp only [Tryz.f148, u, go_sem]
    refine qif_d (fun h => ?_) (fun h => ?_)
    · simp only [Tryz.f148, go_sem]
      rw [if_pos (by simp; omega)]; rfl
    · simp only [Tryz.f148, go_sem]
      rw [if_neg (by simp; omega)]; rfl
theorem sgd_add (x : Nat) (o : Bool) : IntKind.wrap .u64 (9218868437227405312 + (sgd 0 x o : Int)) = (sgd bInf x o : Int) := by
  unfold sgd
  split
  · decide
  · decide
theorem powS_alt (x y : Nat) (hx : x < W) : powS x y =
  if kind x = 5 ∨ kind y = 5 then some (bNaN, 16)
  else if kind y = 0 ∨ x = 4607182418800017408 then some (bOne, 0)
  else if kind x = 4 ∨ kind y = 4 then some (bNaN, 0)
  else if kind x = 0 then
    if fs y = true then (if kind y = 3 then some (bInf, 0) else some (sgd bInf x (od y), 8))
    else some (sgd 0 x (od y), 0)
  else if kind y = 3 then
    if fsz x = 4607182418800017408 then some (bOne, 0) else if (decide (4607182418800017408 < fsz x) != fs y) = true then some (bInf, 0) else some (0, 0)
  else if kind x = 3 then if fs y = true then some (sgd 0 x (od y), 0) else some (sgd bInf x (od y), 0)
  else if fs x = true ∧ wh y = false then some (bNaN, 16) else none := by
  unfold powS
  by_cases h1 : x = 4607182418800017408
  · simp [h1]
  · have h2 : (x = 13830554455654793216) = (fsz x = 4607182418800017408) := by
      have : x < 18446744073709551616 := hx
      unfold fsz
      exact propext ⟨fun h => by omega, fun h => by omega⟩
    simp only [h2]
set_option maxHeartbeats 1000000 in
theorem c_rPow (x y : Nat) (hx : x < W) (hy : y < W) : PC E 85 [u x, u y] (ansPV (powS x y)) := by
  obtain ⟨R, hR⟩ : ∃ R, R = ansPV (powS x y) := ⟨_, rfl⟩
  rw [← hR]
  refine PC.of_body follows Tryz.func85 (by decide +kernel) rfl (by kernel_rfl) (Nat.le_of_ble_eq_true rfl) (walk ?_)
  have q1 : ((x : Int) = 4607182418800017408) = (x = 4607182418800017408) := by rw [← Int.ofNat_inj]; rfl
  have q2 : (sgn (fsz x) 4607182418800017408 = 0) = (fsz x = 4607182418800017408) := by rw [sgn_zero, ← Int.ofNat_inj]; rfl
  have q3 : (0 < sgn (fsz x) 4607182418800017408) = (4607182418800017408 < fsz x) := by rw [sgn_pos, ← Int.ofNat_lt]; rfl
  have q4 : (sgn (fsz x) 4607182418800017408 < 0) = (fsz x < 4607182418800017408) := by rw [sgn_neg, ← Int.ofNat_lt]; rfl
  have q5 : decide ((x : Int) ≥ 9223372036854775808) = fs x := decide_eq_decide.2 (by omega)
  have q6 : decide ((y : Int) ≥ 9223372036854775808) = fs y := decide_eq_decide.2 (by omega)
  have q7 := sgd_add x (od y)
  have k1 := c_rsign x (od y)
  have k2 := fun h => c_less x hx h
  have ha := kind_le x
  simp only [u] at k1 k2
  simp only [Tryz.f85, go_sem]
  refine qcall_i (c_rKind x hx) ?_; simp only [Tryz.f85, u, go_sem]
  refine qcall_i (c_rKind y hy) ?_; simp only [Tryz.f85, u, go_sem]
  refine qcall_i (c_rOdd y hy) ?_; simp only [Tryz.f85, u, q6, go_sem]
  rw [powS_alt x y hx] at hR
  generalize wh y = w at *
  generalize od y = o at *
  generalize fs y = s at *
  generalize fs x = t at *
  generalize sgd bInf x o = g1 at *
  generalize sgd 0 x o = g2 at *
  generalize fsz x = z at *
  have e5 : ∀ n : Nat, ((kind x : Int) = n) = (kind x = n) := fun n => by rw [Int.ofNat_inj]
  have e6 : ∀ n : Nat, ((kind y : Int) = n) = (kind y = n) := fun n => by rw [Int.ofNat_inj]
  have c5 := e5 5
  have c4 := e5 4
  have c3 := e5 3
  have c0 := e5 0
  have d5 := e6 5
  have d4 := e6 4
  have d3 := e6 3
  have d0 := e6 0
  simp only [Int.cast_ofNat_Int] at c5 c4 c3 c0 d5 d4 d3 d0
  clear e5 e6 q6 hx hy
  simp only [c5]
  repeat' first
    | (with_reducible refine qif_b (fun h => ?_) (fun h => ?_) <;> simp only [Tryz.f85, h, u, ansPV, resPV, q1, q2, q3, q4, q5, q7, c5, c4, c3, c0, d5, d4, d3, d0, go_sem])
    | (with_reducible refine qcall_i k1 ?_; simp only [Tryz.f85, u, ansPV, resPV, q1, q2, q3, q4, q5, q7, c5, c4, c3, c0, d5, d4, d3, d0, go_sem])
    | (with_reducible refine qcall_i (k2 (by simp only [decide_eq_true_eq, decide_eq_false_iff_not] at *; omega)) ?_; simp only [Tryz.f85, u, ansPV, resPV, q1, q2, q3, q4, q5, q7, c5, c4, c3, c0, d5, d4, d3, d0, go_sem])
    | (with_reducible refine Eq.trans ?_ hR.symm; clear k1 k2 q1 q2 q3 q4 q5 q7 c5 c4 c3 c0 d5 d4 d3 d0 hR; first | (simp_all [ansPV, resPV, bNaN, bInf, bOne]; done) | (rw [show decide (4607182418800017408 < z) = false from by assumption]; simp_all [ansPV, resPV, bNaN, bInf, bOne]; done) | (exfalso; simp_all; omega))
end
section
open Go PG Go.Proofs
theorem mkD_ok (s : Bool) (x : Nat) (e : Int) : mkD s x e = .zero ∨ (mkD s x e).m % 2 = 1 := by
  by_cases hx : x = 0
  · left; subst hx; rfl
  · right
    rw [mkD, if_neg hx]
    obtain ⟨m, hm⟩ := tz_spec hx
    have : x / 2 ^ tz x = 2 * m + 1 := Nat.div_eq_of_eq_mul_right (Nat.two_pow_pos _) hm
    show x / 2 ^ tz x % 2 = 1
    omega
theorem fd_exact (b : Nat) (hf : fe b < 2047) (h : (fd b).m ≠ 0) : (fd b).top ≤ 1023 ∧ unitOf (fd b).top ≤ (fd b).e := by
  have hx : fm b ≠ 0 := fun hx => h (by unfold fd; rw [hx]; rfl)
  have ht : (fd b).top = bitLen (fd b).m - 1 + (fd b).e := if_neg h
  have hfm := fm_bits b
  obtain ⟨m, hm⟩ := tz_spec hx
  have hd : fm b / 2 ^ tz (fm b) = 2 * m + 1 := Nat.div_eq_of_eq_mul_right (Nat.two_pow_pos _) hm
  have hbl : bitLen (2 * m + 1) + tz (fm b) = bitLen (fm b) := by
    have := bitLen_shl (2 * m + 1) (tz (fm b)) (by omega)
    rw [Nat.mul_comm, ← hm] at this
    exact this.symm
  have hfd : fd b = ⟨fs b, 2 * m + 1, (max (fe b : Int) 1 - 1075) + tz (fm b)⟩ := by
    have := fe_lt b
    unfold fd
    rw [mkD, if_neg hx, hd, cut_id (by omega) (by omega)]
  have e1 : (fd b).m = 2 * m + 1 := by rw [hfd]
  have e2 : (fd b).e = (max (fe b : Int) 1 - 1075) + tz (fm b) := by rw [hfd]
  rw [e1, e2] at ht
  rw [e2]
  unfold unitOf
  rw [ht]
  have hbp : bitLen (fm b) = 0 ∨ 0 < bitLen (fm b) := by omega
  constructor <;> omega
theorem exact_cases {d : Dy} (hok : d = Dy.zero ∨ d.m % 2 = 1) :
    (∃ b, (if d.fits then exactS d else none) = some b ∧ b < W ∧ fe b < 2047 ∧ fd b = d) ∨ ((if d.fits then exactS d else none) = none ∧ ∀ n, fe n < 2047 → fd n ≠ d) := by
  rcases hok with rfl | h
  · exact .inl ⟨0, rfl, by decide, by decide, rfl⟩
  · have h0 : d.m ≠ 0 := by omega
    by_cases hx : d.top ≤ 1023 ∧ unitOf d.top ≤ d.e
    · obtain ⟨b, y1, y2, y3, y4, y5⟩ := exact_fd h hx.1 hx.2
      have hf : d.fits := by rw [← y4]; exact fd_fits b
      exact .inl ⟨b, by rw [if_pos hf]; exact y1, y2, y3, y4⟩
    · refine .inr ⟨?_, fun n hn hd => ?_⟩
      · by_cases hf : d.fits
        · rw [if_pos hf]; unfold exactS; rw [if_neg h0, if_pos (by omega)]
        · rw [if_neg hf]
      · subst hd
        exact hx (fd_exact n hn h0)
end
end
end Go.Proofs.YtfkgaldbcngliaaGreatDoor
