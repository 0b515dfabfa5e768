/- Several parts in one text. -/
import Derived.Test.YtmnojbkakgfinaaGreatDoorI3
import Derived.Test.YtmnojbkakgfinaaGreatDoorI1
import Derived.Test.YtmnojbkakgfinaaGreatDoorH1
/- Sizes held against quotients and roots: plain laws. No program stands here. -/
section
open Go PG Go.Proofs
set_option maxRecDepth 100000
set_option linter.unusedSimpArgs false
set_option linter.unusedVariables false
namespace Go.Proofs.YtmnojbkakgfinaaGreatDoor

theorem z2_mono {a b : Int} (h : a ≤ b) : (2 : Rat) ^ a ≤ (2 : Rat) ^ b := by
  obtain ⟨n, hn⟩ : ∃ n : Nat, b = a + n := ⟨(b - a).toNat, by omega⟩
  rw [hn, z2_add, z2_nat]
  have h1 := z2_pos a
  have h2 : (1 : Rat) ≤ ((2 ^ n : Nat) : Rat) := by
    have : 1 ≤ 2 ^ n := Nat.one_le_two_pow
    exact_mod_cast this
  have h3 : (2 : Rat) ^ a * 1 ≤ (2 : Rat) ^ a * ((2 ^ n : Nat) : Rat) := Rat.mul_le_mul_of_nonneg_left h2 (Rat.le_of_lt h1)
  rwa [Rat.mul_one] at h3
/-- A number of few bits that is more than so many units, many of them, is a unit more. -/
theorem gap {m q : Nat} {e E : Int} (hm : m < 1152921504606846976) (hq : 2 ^ 69 ≤ q) (h : (q : Rat) * (2 : Rat) ^ E < (m : Rat) * (2 : Rat) ^ e) : ((q : Rat) + 1) * (2 : Rat) ^ E ≤ (m : Rat) * (2 : Rat) ^ e := by
  by_cases he : E ≤ e
  · obtain ⟨n, hn⟩ : ∃ n : Nat, e = E + n := ⟨(e - E).toNat, by omega⟩
    have e1 : (m : Rat) * (2 : Rat) ^ e = ((m * 2 ^ n : Nat) : Rat) * (2 : Rat) ^ E := by
      rw [hn, z2_add, z2_nat, Rat.natCast_mul]
      grind
    rw [e1] at h ⊢
    have hp := z2_pos E
    have h1 : (q : Rat) < ((m * 2 ^ n : Nat) : Rat) := Rat.lt_of_mul_lt_mul_right h (Rat.le_of_lt hp)
    have h2 : q < m * 2 ^ n := by exact_mod_cast h1
    have h3 : q + 1 ≤ m * 2 ^ n := h2
    have h4 : ((q : Rat) + 1) ≤ ((m * 2 ^ n : Nat) : Rat) := by exact_mod_cast h3
    exact Rat.mul_le_mul_of_nonneg_right h4 (Rat.le_of_lt hp)
  · exfalso
    have h1 := z2_mono (a := e) (b := E) (by omega)
    have hp := z2_pos E
    have h2 : (m : Rat) ≤ (q : Rat) := by
      have : m ≤ q := Nat.le_trans (Nat.le_of_lt hm) (Nat.le_trans (by decide) hq)
      exact_mod_cast this
    have h3 : (m : Rat) * (2 : Rat) ^ e ≤ (m : Rat) * (2 : Rat) ^ E := Rat.mul_le_mul_of_nonneg_left h1 (by exact_mod_cast Nat.zero_le m)
    have h4 : (m : Rat) * (2 : Rat) ^ E ≤ (q : Rat) * (2 : Rat) ^ E := Rat.mul_le_mul_of_nonneg_right h2 (Rat.le_of_lt hp)
    grind
theorem rtri (x y : Rat) : x < y ∨ x = y ∨ y < x := by grind
/-- How a rising function of a size is to what lies between two of its worths. -/
theorem tri {f : Rat → Rat} (hf : ∀ x y, 0 ≤ x → x < y → f x < f y) {Q Q1 A N : Rat} (h0 : 0 ≤ N) (hQ : 0 ≤ Q) (hQ1 : 0 ≤ Q1) (h1 : f Q ≤ A) (h2 : A < f Q1) (hg : Q < N → Q1 ≤ N) :
    (f N < A ↔ N < Q ∨ (N = Q ∧ f Q ≠ A)) ∧ (A < f N ↔ Q < N) := by
  rcases rtri N Q with h | h | h
  · have h3 := hf N Q h0 h
    have h4 : ¬ Q < N := by grind
    have h5 : ¬ N = Q := by grind
    constructor
    · exact ⟨fun _ => .inl h, fun _ => by grind⟩
    · exact ⟨fun h6 => by grind, fun h6 => absurd h6 h4⟩
  · subst h
    constructor
    · exact ⟨fun h3 => .inr ⟨rfl, by grind⟩, fun h3 => by grind⟩
    · exact ⟨fun h3 => by grind, fun h3 => by grind⟩
  · have h3 := hg h
    have h4 : f Q1 ≤ f N := by
      rcases rtri Q1 N with h5 | h5 | h5
      · exact Rat.le_of_lt (hf Q1 N hQ1 h5)
      · rw [h5]; exact Rat.le_refl
      · grind
    constructor
    · exact ⟨fun h5 => by grind, fun h5 => by grind⟩
    · exact ⟨fun _ => h, fun _ => by grind⟩
theorem tri_mul {B : Rat} (hB : 0 < B) : ∀ x y : Rat, 0 ≤ x → x < y → x * B < y * B := fun x y _ h => Rat.mul_lt_mul_of_pos_right h hB
theorem tri_sq : ∀ x y : Rat, 0 ≤ x → x < y → x * x < y * y := fun x y h0 h => by
  have h1 : x * x ≤ x * y := Rat.mul_le_mul_of_nonneg_left (Rat.le_of_lt h) h0
  have hy : 0 < y := by grind
  have h2 : x * y < y * y := Rat.mul_lt_mul_of_pos_right h hy
  grind
theorem LimN.mk {K n J : Nat} {d : Dy} (hb : bitLen d.m ≤ n) (he : -(J : Int) ≤ d.e ∧ d.e ≤ J) (h : n + J ≤ K) : LimN K d := by
  refine ⟨.inr (by omega), ?_, by omega, by omega⟩
  rw [natAbs_at]
  have h1 := (bitLen_le d.m n).1 hb
  refine Nat.lt_of_lt_of_le (Nat.mul_lt_mul_of_pos_right h1 (Nat.two_pow_pos _)) ?_
  rw [← Nat.pow_add]
  exact Nat.pow_le_pow_right (by decide) (by omega)
/-- What is looked at: worth a few bits. -/
def probe (n : Dy) : Prop := LimN 5000 n ∧ ∃ (m : Nat) (e : Int), n.val = (m : Rat) * (2 : Rat) ^ e ∧ m < 1152921504606846976
theorem val_few {n : Dy} (hs : n.s = false) : n.val = (n.m : Rat) * (2 : Rat) ^ n.e := by
  rw [val_at (d := n) (k := n.e) (.inr (Int.le_refl _)), nat_at hs, Int.sub_self]
  simp
  rfl
theorem probe_few {n : Dy} (hs : n.s = false) (hb : bitLen n.m ≤ 60) (he : -2000 ≤ n.e ∧ n.e ≤ 2000) : probe n := by
  refine ⟨LimN.mk (n := 60) (J := 2000) hb (by omega) (by decide), n.m, n.e, val_few hs, ?_⟩
  exact (bitLen_le _ 60).1 hb
theorem probe_fd {b : Nat} (hb : b ≤ INF) : probe (fd b) := by
  have h1 := fd_bits b
  have h2 := fd_e b
  refine probe_few ?_ (by omega) (by omega)
  unfold fd mkD
  have := fs_small (b := b) (Nat.lt_of_le_of_lt hb INF_lt)
  split
  · rfl
  · exact this
theorem probe_mid7 {b : Nat} (hb : b < INF) : probe (mid7 b) := by
  have h1 := mid7_bits b
  have h2 := mid7_e b
  have h3 := mid_bits b
  refine ⟨LimN.mk (n := 3001) (J := 1100) h1 (by omega) (by decide), (mid b).m, (mid b).e, ?_, Nat.lt_trans ((bitLen_le _ 54).1 h3) (by decide)⟩
  rw [← val_few (n := mid b) rfl, val_at (mid7_ge b), val_at (mid_ge b), mid7_at hb]
theorem probe_one {e : Int} (he : -2000 ≤ e ∧ e ≤ 2000) : probe ⟨false, 1, e⟩ := probe_few rfl (show bitLen 1 ≤ 60 by decide) he
/-- Tests tell how sizes are to a number and a little more. -/
def tcOk (tc : Dy → Int) (d : Dy) (more : Bool) : Prop := ∀ n, probe n → (tc n < 0 ↔ cmpD n d.abs < 0 ∨ (cmpD n d.abs = 0 ∧ more = true)) ∧ (0 < tc n ↔ 0 < cmpD n d.abs)
end Go.Proofs.YtmnojbkakgfinaaGreatDoor
end

/- Sizes held against quotients and roots tell where they lie. -/
section
open Go PG Go.Proofs
set_option maxRecDepth 100000
set_option linter.unusedSimpArgs false
set_option linter.unusedVariables false
namespace Go.Proofs.YtmnojbkakgfinaaGreatDoor

theorem abs_val {a : Dy} : a.abs.val = (a.m : Rat) * (2 : Rat) ^ a.e := val_few (n := a.abs) rfl
theorem mkD_abs_val (s : Bool) (x : Nat) {e : Int} (h1 : -1000000000 ≤ e) (h2 : e ≤ 1000000000) (hb : bitLen x ≤ 100000) : (mkD s x e).abs.val = (x : Rat) * (2 : Rat) ^ e := by
  rw [abs_val]
  have e1 := val_at (d := mkD false x e) (k := e) (mkD_ge false x (by omega) (by omega))
  rw [mkD_at false x (by omega) (by omega) (by omega), Int.sub_self] at e1
  have e2 := mkD_sw s x e
  have e3 : (mkD false x e).s = false := by unfold mkD; split <;> rfl
  rw [e2.1, e2.2, ← val_few e3, e1]
  simp
  rfl
theorem cmp3 {n d : Dy} {a b : Dy} {more : Bool} (h : (a.val < b.val ↔ n.val < d.val ∨ (n.val = d.val ∧ more = true)) ∧ (b.val < a.val ↔ d.val < n.val)) :
    (cmpD a b < 0 ↔ cmpD n d < 0 ∨ (cmpD n d = 0 ∧ more = true)) ∧ (0 < cmpD a b ↔ 0 < cmpD n d) := by
  rw [cmp_val_lt, cmp_val_lt, cmp_val_eq, cmp_val_gt, cmp_val_gt]
  exact h
theorem tc_quo {a b : Dy} (ha : a.m ≠ 0) (hb : b.m ≠ 0) (ba : bitLen a.m ≤ 4400) (bb : bitLen b.m ≤ 4400) (ea : -20000 ≤ a.e ∧ a.e ≤ 20000) (eb : -20000 ≤ b.e ∧ b.e ≤ 20000) :
    tcOk (fun n => cmpD (mulS n b.abs) a.abs) (partD a b) (partR a b) := by
  intro n hn
  obtain ⟨-, m, e, hnv, hm⟩ := hn
  refine cmp3 ?_
  have hK : partN a b ≤ 4470 := by unfold partN; omega
  have hq := (part_pos (b := b) ha).resolve_right hb
  have hqb : bitLen (a.m * 2 ^ partN a b / b.m) ≤ 100000 := by
    have h3 := bitLen_shl_le a.m (partN a b)
    exact Nat.le_trans (bitLen_mono (Nat.div_le_self _ _)) (by omega)
  have hD : (partD a b).abs.val = ((a.m * 2 ^ partN a b / b.m : Nat) : Rat) * (2 : Rat) ^ (a.e - b.e - partN a b) := mkD_abs_val _ _ (by omega) (by omega) hqb
  have hR : partR a b = true ↔ a.m * 2 ^ partN a b % b.m ≠ 0 := by unfold partR; simp
  rw [val_mul, hD, hnv, abs_val, abs_val]
  have hdm := Nat.div_add_mod (a.m * 2 ^ partN a b) b.m
  have hlt := Nat.mod_lt (a.m * 2 ^ partN a b) (Nat.pos_of_ne_zero hb)
  have hA : (a.m : Rat) * (2 : Rat) ^ a.e = ((a.m * 2 ^ partN a b : Nat) : Rat) * ((2 : Rat) ^ (a.e - b.e - partN a b) * (2 : Rat) ^ b.e) := by
    rw [Rat.natCast_mul, ← z2_nat, ← z2_add, Rat.mul_assoc, ← z2_add]
    congr 2
    omega
  rw [hA]
  have hg := gap (m := m) (q := a.m * 2 ^ partN a b / b.m) (e := e) (E := a.e - b.e - partN a b) hm hq
  have hN0 : 0 ≤ (m : Rat) * (2 : Rat) ^ e := Rat.mul_nonneg (by exact_mod_cast Nat.zero_le m) (Rat.le_of_lt (z2_pos e))
  have hu := z2_pos (a.e - b.e - partN a b)
  have hbe := z2_pos b.e
  generalize a.m * 2 ^ partN a b / b.m = q at *
  generalize a.m * 2 ^ partN a b % b.m = r at *
  rw [← hdm]
  generalize (2 : Rat) ^ (a.e - b.e - partN a b) = U at *
  generalize (2 : Rat) ^ b.e = V at *
  generalize (m : Rat) * (2 : Rat) ^ e = N at *
  have hbm : (0 : Rat) < (b.m : Rat) := by exact_mod_cast Nat.pos_of_ne_zero hb
  have hr0 : (0 : Rat) ≤ (r : Rat) := by exact_mod_cast Nat.zero_le r
  have hrb : (r : Rat) < (b.m : Rat) := by exact_mod_cast hlt
  have hq0 : (0 : Rat) ≤ (q : Rat) := by exact_mod_cast Nat.zero_le q
  have hUV := Rat.mul_pos hu hbe
  have hr : (r : Rat) = 0 ↔ r = 0 := by exact_mod_cast Iff.rfl
  rw [show ((b.m * q + r : Nat) : Rat) = (b.m : Rat) * q + r by rw [Rat.natCast_add, Rat.natCast_mul]]
  have h1 : (r : Rat) * (U * V) < (b.m : Rat) * (U * V) := Rat.mul_lt_mul_of_pos_right hrb hUV
  have h2 : 0 ≤ (r : Rat) * (U * V) := Rat.mul_nonneg hr0 (Rat.le_of_lt hUV)
  have h3 : (r : Rat) * (U * V) = 0 ↔ r = 0 := by
    rw [← hr]
    constructor
    · intro h
      rcases rtri (r : Rat) 0 with h4 | h4 | h4
      · grind
      · exact h4
      · have := Rat.mul_pos h4 hUV
        grind
    · intro h; rw [h, Rat.zero_mul]
  have T := tri (f := fun x => x * ((b.m : Rat) * V)) (tri_mul (Rat.mul_pos hbm hbe)) (Q := (q : Rat) * U) (Q1 := ((q : Rat) + 1) * U) (A := ((b.m : Rat) * q + r) * (U * V)) (N := N) hN0
    (Rat.mul_nonneg hq0 (Rat.le_of_lt hu)) (Rat.mul_nonneg (by grind) (Rat.le_of_lt hu)) (by grind) (by grind) hg
  rw [T.1, T.2, hR]
  have h5 : ((q : Rat) * U * ((b.m : Rat) * V) ≠ ((b.m : Rat) * q + r) * (U * V)) ↔ r ≠ 0 := by
    rw [ne_eq, ne_eq, ← h3]
    constructor
    · intro h h6; exact h (by grind)
    · intro h h6; exact h (by grind)
  simp only [h5, and_true]
theorem tc_root {a : Dy} (ha : a.m ≠ 0) (hs : a.s = false) (ba : bitLen a.m ≤ 4400) (ea : -20000 ≤ a.e ∧ a.e ≤ 20000) {r : Nat} (hr : Isq (rootM a) r) :
    tcOk (fun n => cmpD (mulS n n) a) (rootD a r) (decide (r * r ≠ rootM a)) := by
  intro n hn
  obtain ⟨-, m, e, hnv, hm⟩ := hn
  refine cmp3 ?_
  have hK := rootN_le a
  have hev := rootN_even a
  have hbig := rootM_big ha
  have hMb := rootM_bits ba
  have hq : 2 ^ 69 ≤ r := Nat.not_lt.1 fun h => by
    have h1 : r + 1 ≤ 2 ^ 69 := h
    have h2 := Nat.mul_le_mul h1 h1
    rw [← Nat.pow_add] at h2
    have h3 : (2 : Nat) ^ (69 + 69) < 2 ^ 139 := Nat.pow_lt_pow_right (by decide) (by decide)
    have := hr.2
    omega
  have hrb : bitLen r ≤ 100000 := Nat.le_trans (bitLen_mono (Nat.le_trans (by
    have h4 := Nat.mul_le_mul_right r (Nat.le_trans (show 1 ≤ 2 ^ 69 by decide) hq)
    omega) hr.1)) (by omega)
  have hD : (rootD a r).abs.val = (r : Rat) * (2 : Rat) ^ ((a.e - rootN a) / 2) := mkD_abs_val _ _ (by omega) (by omega) hrb
  have hR : decide (r * r ≠ rootM a) = true ↔ r * r ≠ rootM a := decide_eq_true_iff
  rw [val_mul, hD, hnv, val_few hs]
  have hA : (a.m : Rat) * (2 : Rat) ^ a.e = ((rootM a : Nat) : Rat) * ((2 : Rat) ^ ((a.e - rootN a) / 2) * (2 : Rat) ^ ((a.e - rootN a) / 2)) := by
    unfold rootM
    rw [Rat.natCast_mul, ← z2_nat, ← z2_add, Rat.mul_assoc, ← z2_add]
    congr 2
    omega
  rw [hA]
  have hg := gap (m := m) (q := r) (e := e) (E := (a.e - rootN a) / 2) hm hq
  have hN0 : 0 ≤ (m : Rat) * (2 : Rat) ^ e := Rat.mul_nonneg (by exact_mod_cast Nat.zero_le m) (Rat.le_of_lt (z2_pos e))
  have hu := z2_pos ((a.e - rootN a) / 2)
  have hr1 := hr.1
  have hr2 := hr.2
  generalize rootM a = M at *
  generalize (2 : Rat) ^ ((a.e - rootN a) / 2) = U at *
  generalize (m : Rat) * (2 : Rat) ^ e = N at *
  have hr0 : (0 : Rat) ≤ (r : Rat) := by exact_mod_cast Nat.zero_le r
  have c1 : (r : Rat) * r ≤ (M : Rat) := by exact_mod_cast hr1
  have c2 : (M : Rat) < ((r : Rat) + 1) * ((r : Rat) + 1) := by exact_mod_cast hr2
  have c3 : (r : Rat) * r = (M : Rat) ↔ r * r = M := by exact_mod_cast Iff.rfl
  have hUU := Rat.mul_pos hu hu
  have h1 : (r : Rat) * r * (U * U) ≤ (M : Rat) * (U * U) := Rat.mul_le_mul_of_nonneg_right c1 (Rat.le_of_lt hUU)
  have h2 : (M : Rat) * (U * U) < ((r : Rat) + 1) * ((r : Rat) + 1) * (U * U) := Rat.mul_lt_mul_of_pos_right c2 hUU
  have T := tri (f := fun x => x * x) tri_sq (Q := (r : Rat) * U) (Q1 := ((r : Rat) + 1) * U) (A := (M : Rat) * (U * U)) (N := N) hN0
    (Rat.mul_nonneg hr0 (Rat.le_of_lt hu)) (Rat.mul_nonneg (by grind) (Rat.le_of_lt hu)) (by grind) (by grind) hg
  rw [T.1, T.2, hR]
  have h5 : ((r : Rat) * U * ((r : Rat) * U) ≠ (M : Rat) * (U * U)) ↔ r * r ≠ M := by
    rw [ne_eq, ne_eq, ← c3]
    constructor
    · intro h h6; exact h (by rw [← h6]; grind)
    · intro h h6
      refine h (Rat.le_antisymm c1 (Rat.le_of_mul_le_mul_right ?_ hUU))
      rw [← h6]
      grind
  simp only [h5, hnv]
  constructor <;> first | trivial | exact Iff.rfl
end Go.Proofs.YtmnojbkakgfinaaGreatDoor
end
