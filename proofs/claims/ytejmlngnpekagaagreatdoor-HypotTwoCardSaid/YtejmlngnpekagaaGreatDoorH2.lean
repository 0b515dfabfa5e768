/- Several parts in one text. -/
import Derived.Test.YtejmlngnpekagaaGreatDoorRv
import Derived.Test.YtejmlngnpekagaaGreatDoorRd7
import Derived.Test.YtejmlngnpekagaaGreatDoorH1
import Derived.Test.YtejmlngnpekagaaGreatDoorBq3
import Derived.Test.YtejmlngnpekagaaGreatDoorNm
import Derived.Test.YtejmlngnpekagaaGreatDoorBq4
/- Sizes held against quotients and roots: plain laws. No program stands here. -/
section
open Go PG Go.Proofs
set_option maxRecDepth 100000
set_option linter.unusedSimpArgs false
set_option linter.unusedVariables false
namespace Go.Proofs.YtejmlngnpekagaaGreatDoor

theorem z2_mono {a b : Int} (h : a ≤ b) : (2 : Rat) ^ a ≤ (2 : Rat) ^ b := by
  obtain ⟨n, hn⟩ : ∃ n : Nat, b = a + n := ⟨(b - a).toNat, by omega⟩
  rw [hn, z2_add, z2_nat]
  have h1 := z2_pos a
  have h2 : (1 : Rat) ≤ ((2 ^ n : Nat) : Rat) := by
    have : 1 ≤ 2 ^ n := Nat.one_le_two_pow
    exact_mod_cast this
  have h3 : (2 : Rat) ^ a * 1 ≤ (2 : Rat) ^ a * ((2 ^ n : Nat) : Rat) := Rat.mul_le_mul_of_nonneg_left h2 (Rat.le_of_lt h1)
  rwa [Rat.mul_one] at h3
/-- A number of few bits that is more than so many units, many of them, is a unit more. -/
theorem gap {m q : Nat} {e E : Int} (hm : m < 1152921504606846976) (hq : 2 ^ 69 ≤ q) (h : (q : Rat) * (2 : Rat) ^ E < (m : Rat) * (2 : Rat) ^ e) : ((q : Rat) + 1) * (2 : Rat) ^ E ≤ (m : Rat) * (2 : Rat) ^ e := by
  by_cases he : E ≤ e
  · obtain ⟨n, hn⟩ : ∃ n : Nat, e = E + n := ⟨(e - E).toNat, by omega⟩
    have e1 : (m : Rat) * (2 : Rat) ^ e = ((m * 2 ^ n : Nat) : Rat) * (2 : Rat) ^ E := by
      rw [hn, z2_add, z2_nat, Rat.natCast_mul]
      grind
    rw [e1] at h ⊢
    have hp := z2_pos E
    have h1 : (q : Rat) < ((m * 2 ^ n : Nat) : Rat) := Rat.lt_of_mul_lt_mul_right h (Rat.le_of_lt hp)
    have h2 : q < m * 2 ^ n := by exact_mod_cast h1
    have h3 : q + 1 ≤ m * 2 ^ n := h2
    have h4 : ((q : Rat) + 1) ≤ ((m * 2 ^ n : Nat) : Rat) := by exact_mod_cast h3
    exact Rat.mul_le_mul_of_nonneg_right h4 (Rat.le_of_lt hp)
  · exfalso
    have h1 := z2_mono (a := e) (b := E) (by omega)
    have hp := z2_pos E
    have h2 : (m : Rat) ≤ (q : Rat) := by
      have : m ≤ q := Nat.le_trans (Nat.le_of_lt hm) (Nat.le_trans (by decide) hq)
      exact_mod_cast this
    have h3 : (m : Rat) * (2 : Rat) ^ e ≤ (m : Rat) * (2 : Rat) ^ E := Rat.mul_le_mul_of_nonneg_left h1 (by exact_mod_cast Nat.zero_le m)
    have h4 : (m : Rat) * (2 : Rat) ^ E ≤ (q : Rat) * (2 : Rat) ^ E := Rat.mul_le_mul_of_nonneg_right h2 (Rat.le_of_lt hp)
    grind
theorem rtri (x y : Rat) : x < y ∨ x = y ∨ y < x := by grind
/-- How a rising function of a size is to what lies between two of its worths. -/
theorem tri {f : Rat → Rat} (hf : ∀ x y, 0 ≤ x → x < y → f x < f y) {Q Q1 A N : Rat} (h0 : 0 ≤ N) (hQ : 0 ≤ Q) (hQ1 : 0 ≤ Q1) (h1 : f Q ≤ A) (h2 : A < f Q1) (hg : Q < N → Q1 ≤ N) :
    (f N < A ↔ N < Q ∨ (N = Q ∧ f Q ≠ A)) ∧ (A < f N ↔ Q < N) := by
  rcases rtri N Q with h | h | h
  · have h3 := hf N Q h0 h
    have h4 : ¬ Q < N := by grind
    have h5 : ¬ N = Q := by grind
    constructor
    · exact ⟨fun _ => .inl h, fun _ => by grind⟩
    · exact ⟨fun h6 => by grind, fun h6 => absurd h6 h4⟩
  · subst h
    constructor
    · exact ⟨fun h3 => .inr ⟨rfl, by grind⟩, fun h3 => by grind⟩
    · exact ⟨fun h3 => by grind, fun h3 => by grind⟩
  · have h3 := hg h
    have h4 : f Q1 ≤ f N := by
      rcases rtri Q1 N with h5 | h5 | h5
      · exact Rat.le_of_lt (hf Q1 N hQ1 h5)
      · rw [h5]; exact Rat.le_refl
      · grind
    constructor
    · exact ⟨fun h5 => by grind, fun h5 => by grind⟩
    · exact ⟨fun _ => h, fun _ => by grind⟩
theorem tri_mul {B : Rat} (hB : 0 < B) : ∀ x y : Rat, 0 ≤ x → x < y → x * B < y * B := fun x y _ h => Rat.mul_lt_mul_of_pos_right h hB
theorem tri_sq : ∀ x y : Rat, 0 ≤ x → x < y → x * x < y * y := fun x y h0 h => by
  have h1 : x * x ≤ x * y := Rat.mul_le_mul_of_nonneg_left (Rat.le_of_lt h) h0
  have hy : 0 < y := by grind
  have h2 : x * y < y * y := Rat.mul_lt_mul_of_pos_right h hy
  grind
theorem LimN.mk {K n J : Nat} {d : Dy} (hb : bitLen d.m ≤ n) (he : -(J : Int) ≤ d.e ∧ d.e ≤ J) (h : n + J ≤ K) : LimN K d := by
  refine ⟨.inr (by omega), ?_, by omega, by omega⟩
  rw [natAbs_at]
  have h1 := (bitLen_le d.m n).1 hb
  refine Nat.lt_of_lt_of_le (Nat.mul_lt_mul_of_pos_right h1 (Nat.two_pow_pos _)) ?_
  rw [← Nat.pow_add]
  exact Nat.pow_le_pow_right (by decide) (by omega)
/-- What is looked at: worth a few bits. -/
def probe (n : Dy) : Prop := LimN 5000 n ∧ ∃ (m : Nat) (e : Int), n.val = (m : Rat) * (2 : Rat) ^ e ∧ m < 1152921504606846976
theorem val_few {n : Dy} (hs : n.s = false) : n.val = (n.m : Rat) * (2 : Rat) ^ n.e := by
  rw [val_at (d := n) (k := n.e) (.inr (Int.le_refl _)), nat_at hs, Int.sub_self]
  simp
  rfl
theorem probe_few {n : Dy} (hs : n.s = false) (hb : bitLen n.m ≤ 60) (he : -2000 ≤ n.e ∧ n.e ≤ 2000) : probe n := by
  refine ⟨LimN.mk (n := 60) (J := 2000) hb (by omega) (by decide), n.m, n.e, val_few hs, ?_⟩
  exact (bitLen_le _ 60).1 hb
theorem probe_fd {b : Nat} (hb : b ≤ INF) : probe (fd b) := by
  have h1 := fd_bits b
  have h2 := fd_e b
  refine probe_few ?_ (by omega) (by omega)
  unfold fd mkD
  have := fs_small (b := b) (Nat.lt_of_le_of_lt hb INF_lt)
  split
  · rfl
  · exact this
theorem probe_mid7 {b : Nat} (hb : b < INF) : probe (mid7 b) := by
  have h1 := mid7_bits b
  have h2 := mid7_e b
  have h3 := mid_bits b
  refine ⟨LimN.mk (n := 3001) (J := 1100) h1 (by omega) (by decide), (mid b).m, (mid b).e, ?_, Nat.lt_trans ((bitLen_le _ 54).1 h3) (by decide)⟩
  rw [← val_few (n := mid b) rfl, val_at (mid7_ge b), val_at (mid_ge b), mid7_at hb]
theorem probe_one {e : Int} (he : -2000 ≤ e ∧ e ≤ 2000) : probe ⟨false, 1, e⟩ := probe_few rfl (show bitLen 1 ≤ 60 by decide) he
/-- Tests tell how sizes are to a number and a little more. -/
def tcOk (tc : Dy → Int) (d : Dy) (more : Bool) : Prop := ∀ n, probe n → (tc n < 0 ↔ cmpD n d.abs < 0 ∨ (cmpD n d.abs = 0 ∧ more = true)) ∧ (0 < tc n ↔ 0 < cmpD n d.abs)
end Go.Proofs.YtejmlngnpekagaaGreatDoor
end

/- Sizes held against quotients and roots tell where they lie. -/
section
open Go PG Go.Proofs
set_option maxRecDepth 100000
set_option linter.unusedSimpArgs false
set_option linter.unusedVariables false
namespace Go.Proofs.YtejmlngnpekagaaGreatDoor

theorem abs_val {a : Dy} : a.abs.val = (a.m : Rat) * (2 : Rat) ^ a.e := val_few (n := a.abs) rfl
theorem mkD_abs_val (s : Bool) (x : Nat) {e : Int} (h1 : -1000000000 ≤ e) (h2 : e ≤ 1000000000) (hb : bitLen x ≤ 100000) : (mkD s x e).abs.val = (x : Rat) * (2 : Rat) ^ e := by
  rw [abs_val]
  have e1 := val_at (d := mkD false x e) (k := e) (mkD_ge false x (by omega) (by omega))
  rw [mkD_at false x (by omega) (by omega) (by omega), Int.sub_self] at e1
  have e2 := mkD_sw s x e
  have e3 : (mkD false x e).s = false := by unfold mkD; split <;> rfl
  rw [e2.1, e2.2, ← val_few e3, e1]
  simp
  rfl
theorem cmp3 {n d : Dy} {a b : Dy} {more : Bool} (h : (a.val < b.val ↔ n.val < d.val ∨ (n.val = d.val ∧ more = true)) ∧ (b.val < a.val ↔ d.val < n.val)) :
    (cmpD a b < 0 ↔ cmpD n d < 0 ∨ (cmpD n d = 0 ∧ more = true)) ∧ (0 < cmpD a b ↔ 0 < cmpD n d) := by
  rw [cmp_val_lt, cmp_val_lt, cmp_val_eq, cmp_val_gt, cmp_val_gt]
  exact h
theorem tc_quo {a b : Dy} (ha : a.m ≠ 0) (hb : b.m ≠ 0) (ba : bitLen a.m ≤ 4400) (bb : bitLen b.m ≤ 4400) (ea : -20000 ≤ a.e ∧ a.e ≤ 20000) (eb : -20000 ≤ b.e ∧ b.e ≤ 20000) :
    tcOk (fun n => cmpD (mulS n b.abs) a.abs) (partD a b) (partR a b) := by
  intro n hn
  obtain ⟨-, m, e, hnv, hm⟩ := hn
  refine cmp3 ?_
  have hK : partN a b ≤ 4470 := by unfold partN; omega
  have hq := (part_pos (b := b) ha).resolve_right hb
  have hqb : bitLen (a.m * 2 ^ partN a b / b.m) ≤ 100000 := by
    have h3 := bitLen_shl_le a.m (partN a b)
    exact Nat.le_trans (bitLen_mono (Nat.div_le_self _ _)) (by omega)
  have hD : (partD a b).abs.val = ((a.m * 2 ^ partN a b / b.m : Nat) : Rat) * (2 : Rat) ^ (a.e - b.e - partN a b) := mkD_abs_val _ _ (by omega) (by omega) hqb
  have hR : partR a b = true ↔ a.m * 2 ^ partN a b % b.m ≠ 0 := by unfold partR; simp
  rw [val_mul, hD, hnv, abs_val, abs_val]
  have hdm := Nat.div_add_mod (a.m * 2 ^ partN a b) b.m
  have hlt := Nat.mod_lt (a.m * 2 ^ partN a b) (Nat.pos_of_ne_zero hb)
  have hA : (a.m : Rat) * (2 : Rat) ^ a.e = ((a.m * 2 ^ partN a b : Nat) : Rat) * ((2 : Rat) ^ (a.e - b.e - partN a b) * (2 : Rat) ^ b.e) := by
    rw [Rat.natCast_mul, ← z2_nat, ← z2_add, Rat.mul_assoc, ← z2_add]
    congr 2
    omega
  rw [hA]
  have hg := gap (m := m) (q := a.m * 2 ^ partN a b / b.m) (e := e) (E := a.e - b.e - partN a b) hm hq
  have hN0 : 0 ≤ (m : Rat) * (2 : Rat) ^ e := Rat.mul_nonneg (by exact_mod_cast Nat.zero_le m) (Rat.le_of_lt (z2_pos e))
  have hu := z2_pos (a.e - b.e - partN a b)
  have hbe := z2_pos b.e
  generalize a.m * 2 ^ partN a b / b.m = q at *
  generalize a.m * 2 ^ partN a b % b.m = r at *
  rw [← hdm]
  generalize (2 : Rat) ^ (a.e - b.e - partN a b) = U at *
  generalize (2 : Rat) ^ b.e = V at *
  generalize (m : Rat) * (2 : Rat) ^ e = N at *
  have hbm : (0 : Rat) < (b.m : Rat) := by exact_mod_cast Nat.pos_of_ne_zero hb
  have hr0 : (0 : Rat) ≤ (r : Rat) := by exact_mod_cast Nat.zero_le r
  have hrb : (r : Rat) < (b.m : Rat) := by exact_mod_cast hlt
  have hq0 : (0 : Rat) ≤ (q : Rat) := by exact_mod_cast Nat.zero_le q
  have hUV := Rat.mul_pos hu hbe
  have hr : (r : Rat) = 0 ↔ r = 0 := by exact_mod_cast Iff.rfl
  rw [show ((b.m * q + r : Nat) : Rat) = (b.m : Rat) * q + r by rw [Rat.natCast_add, Rat.natCast_mul]]
  have h1 : (r : Rat) * (U * V) < (b.m : Rat) * (U * V) := Rat.mul_lt_mul_of_pos_right hrb hUV
  have h2 : 0 ≤ (r : Rat) * (U * V) := Rat.mul_nonneg hr0 (Rat.le_of_lt hUV)
  have h3 : (r : Rat) * (U * V) = 0 ↔ r = 0 := by
    rw [← hr]
    constructor
    · intro h
      rcases rtri (r : Rat) 0 with h4 | h4 | h4
      · grind
      · exact h4
      · have := Rat.mul_pos h4 hUV
        grind
    · intro h; rw [h, Rat.zero_mul]
  have T := tri (f := fun x => x * ((b.m : Rat) * V)) (tri_mul (Rat.mul_pos hbm hbe)) (Q := (q : Rat) * U) (Q1 := ((q : Rat) + 1) * U) (A := ((b.m : Rat) * q + r) * (U * V)) (N := N) hN0
    (Rat.mul_nonneg hq0 (Rat.le_of_lt hu)) (Rat.mul_nonneg (by grind) (Rat.le_of_lt hu)) (by grind) (by grind) hg
  rw [T.1, T.2, hR]
  have h5 : ((q : Rat) * U * ((b.m : Rat) * V) ≠ ((b.m : Rat) * q + r) * (U * V)) ↔ r ≠ 0 := by
    rw [ne_eq, ne_eq, ← h3]
    constructor
    · intro h h6; exact h (by grind)
    · intro h h6; exact h (by grind)
  simp only [h5, and_true]
theorem tc_root {a : Dy} (ha : a.m ≠ 0) (hs : a.s = false) (ba : bitLen a.m ≤ 4400) (ea : -20000 ≤ a.e ∧ a.e ≤ 20000) {r : Nat} (hr : Isq (rootM a) r) :
    tcOk (fun n => cmpD (mulS n n) a) (rootD a r) (decide (r * r ≠ rootM a)) := by
  intro n hn
  obtain ⟨-, m, e, hnv, hm⟩ := hn
  refine cmp3 ?_
  have hK := rootN_le a
  have hev := rootN_even a
  have hbig := rootM_big ha
  have hMb := rootM_bits ba
  have hq : 2 ^ 69 ≤ r := Nat.not_lt.1 fun h => by
    have h1 : r + 1 ≤ 2 ^ 69 := h
    have h2 := Nat.mul_le_mul h1 h1
    rw [← Nat.pow_add] at h2
    have h3 : (2 : Nat) ^ (69 + 69) < 2 ^ 139 := Nat.pow_lt_pow_right (by decide) (by decide)
    have := hr.2
    omega
  have hrb : bitLen r ≤ 100000 := Nat.le_trans (bitLen_mono (Nat.le_trans (by
    have h4 := Nat.mul_le_mul_right r (Nat.le_trans (show 1 ≤ 2 ^ 69 by decide) hq)
    omega) hr.1)) (by omega)
  have hD : (rootD a r).abs.val = (r : Rat) * (2 : Rat) ^ ((a.e - rootN a) / 2) := mkD_abs_val _ _ (by omega) (by omega) hrb
  have hR : decide (r * r ≠ rootM a) = true ↔ r * r ≠ rootM a := decide_eq_true_iff
  rw [val_mul, hD, hnv, val_few hs]
  have hA : (a.m : Rat) * (2 : Rat) ^ a.e = ((rootM a : Nat) : Rat) * ((2 : Rat) ^ ((a.e - rootN a) / 2) * (2 : Rat) ^ ((a.e - rootN a) / 2)) := by
    unfold rootM
    rw [Rat.natCast_mul, ← z2_nat, ← z2_add, Rat.mul_assoc, ← z2_add]
    congr 2
    omega
  rw [hA]
  have hg := gap (m := m) (q := r) (e := e) (E := (a.e - rootN a) / 2) hm hq
  have hN0 : 0 ≤ (m : Rat) * (2 : Rat) ^ e := Rat.mul_nonneg (by exact_mod_cast Nat.zero_le m) (Rat.le_of_lt (z2_pos e))
  have hu := z2_pos ((a.e - rootN a) / 2)
  have hr1 := hr.1
  have hr2 := hr.2
  generalize rootM a = M at *
  generalize (2 : Rat) ^ ((a.e - rootN a) / 2) = U at *
  generalize (m : Rat) * (2 : Rat) ^ e = N at *
  have hr0 : (0 : Rat) ≤ (r : Rat) := by exact_mod_cast Nat.zero_le r
  have c1 : (r : Rat) * r ≤ (M : Rat) := by exact_mod_cast hr1
  have c2 : (M : Rat) < ((r : Rat) + 1) * ((r : Rat) + 1) := by exact_mod_cast hr2
  have c3 : (r : Rat) * r = (M : Rat) ↔ r * r = M := by exact_mod_cast Iff.rfl
  have hUU := Rat.mul_pos hu hu
  have h1 : (r : Rat) * r * (U * U) ≤ (M : Rat) * (U * U) := Rat.mul_le_mul_of_nonneg_right c1 (Rat.le_of_lt hUU)
  have h2 : (M : Rat) * (U * U) < ((r : Rat) + 1) * ((r : Rat) + 1) * (U * U) := Rat.mul_lt_mul_of_pos_right c2 hUU
  have T := tri (f := fun x => x * x) tri_sq (Q := (r : Rat) * U) (Q1 := ((r : Rat) + 1) * U) (A := (M : Rat) * (U * U)) (N := N) hN0
    (Rat.mul_nonneg hr0 (Rat.le_of_lt hu)) (Rat.mul_nonneg (by grind) (Rat.le_of_lt hu)) (by grind) (by grind) hg
  rw [T.1, T.2, hR]
  have h5 : ((r : Rat) * U * ((r : Rat) * U) ≠ (M : Rat) * (U * U)) ↔ r * r ≠ M := by
    rw [ne_eq, ne_eq, ← c3]
    constructor
    · intro h h6; exact h (by rw [← h6]; grind)
    · intro h h6
      refine h (Rat.le_antisymm c1 (Rat.le_of_mul_le_mul_right ?_ hUU))
      rw [← h6]
      grind
  simp only [h5, hnv]
  constructor <;> first | trivial | exact Iff.rfl
end Go.Proofs.YtejmlngnpekagaaGreatDoor
end

/- The document's quotients and roots: planimeterref28.By. -/
section
open Go PG Go.Proofs
set_option maxRecDepth 100000
set_option linter.unusedSimpArgs false
set_option linter.unusedVariables false
namespace Go.Proofs.YtejmlngnpekagaaGreatDoor
attribute [local go_sem] Lay2 Lay3 Lay4 Lay5 Lay6 Lay7 Lay8 Lay9 Lay10 Lay11 Lay12 Lay13 Lay14 Lay15 Lay16 Lay17 Lay18 Lay19 Lay21 Lay22 Lay23 Lay25 Lay26 Lay27 Lay30 Lay31 Lay32 Lay33 Lay36 Lay37 Lay41 Lay42 Lay43 Lay47 Lay56 Lay57 Lay59 Lay60 Lay65 Lay66 Lay74 Lay75 Lay105 Lay114 Lay145 Lay146 Lay149 Lay150 Lay151 Lay173 Lay185 Lay189 Lay204 Lay205 Lay208 Lay214 Lay215 Lay216 Lay217 Lay218 Lay220 Lay221 Lay223 Lay224 Lay225 Lay228 qexec_seq qexec_skip qexec_exit qexec_ret qexec_block qexec_loop qexec_range qexec_cond qexec_region qexec_drawn qops_nil qops_none qops_some put_some put_none pblk_exit pblk_other newDsts_nil inlDsts_nil isInl sget_cons sget_nil qval_some qbool_some qgs_bool qgs_und qfree_some qgrd_true qgrd_false qif_true qif_false qval_ite qval_itn qand_true map_ite map_some' map_none' qdo_move qdo_assign qdo_binOp qdo_pick qdo_unOp qdo_convert qdo_extract qdo_field qdo_fieldAddr qdo_alloc qdo_box qdo_build qdo_buildSlice qdo_load qdo_store qdo_nilCheck qdo_makeFunc qdo_makeSlice qdo_slice qdo_indexAddr qdo_call qcont_val qcont_new qcont_st qcont_app0 qcont_app qcont_inl qcont_call njSV_val njSV_nil njSV_row njSV_ptr njSV_sub binV_val binV_nil binV_nn binV_ptr bin_np bin_nnp nilCmp bin_add bin_sub bin_mul bin_quo bin_rem bin_and bin_or bin_xor bin_andNot bin_eql bin_neq bin_lss bin_leq bin_gtr bin_geq bin_shl bin_shr bin_seql bin_sneq bin_sadd bin_beql bin_aeql bin_aneq eqAnd_some eqCells_nil eqCells_cons fieldTypes isStruct eqCell bin_bneq un_not un_neg nj_ite Nat.beq stepA stepR isNew opSV constSV RV.sv allSome E_mu E_own qkeyIn_none qkeyIn_some qkeyAt_none qkeyAt_some Bool.or_false Bool.false_or Bool.or_true Bool.true_or cst setB res resSV pstart startL killL kill1 eraL frzL svPV rvPV rvInt rvSlice frzOf close closeL pconv pbuiltin pmax2 partPV setCells fillPV zrow bound newSV PV.cells Bk.cells Bk.with SV.key pres presL_nil presL_tmp presL_cell presC2_some cellPV_ptr presC List.toList_toArray List.size_toArray List.getElem?_drop Nat.mul_one Int.toNat_natCast Nat.not_lt_zero Nat.lt_irrefl decide_true decide_false Nat.not_lt Option.some.injEq PV.lst.injEq PV.int.injEq PV.bool.injEq PV.tuple.injEq List.cons.injEq Option.map_some Option.map_none Option.bind_some Option.toList List.map_cons List.map_nil List.nil_append List.cons_append List.append_nil List.zip_cons_cons List.zip_nil_left List.zip_nil_right List.getElem?_cons_zero List.getElem?_cons_succ List.drop_zero List.drop_succ_cons List.take_succ_cons List.take_zero List.set_cons_zero List.set_cons_succ List.length_cons List.length_nil List.length_set List.replicate_one List.replicate_zero bne_self_eq_false beq_self_eq_true Nat.zero_add Nat.add_zero Nat.zero_mul Bool.false_eq_true Bool.true_eq_false Bool.not_true Bool.not_false and_true true_and false_and and_false or_false false_or or_true true_or not_true_eq_false not_false_eq_true ne_eq gt_iff_lt List.mem_cons List.not_mem_nil
attribute [local go_sem ↓] pseq_normal pseq_ret pseq_exit pblk_normal pblk_ret newDsts_cons inlDsts_cons gdst_zero gdst_succ retQ_normal retQ_ret qneed_nil qneed_cons retM_normal retM_ret endR_normal endR_ret endR_exit
attribute [local go_sem] Int.reduceToNat Int.reduceEq Int.reduceNe Int.reduceLT Int.reduceLE Int.reduceNeg Int.reduceAdd Nat.reduceEqDiff Nat.reduceAdd Nat.reduceSub Nat.reduceMul Nat.reduceLeDiff Nat.reduceLT
attribute [local go_sem ↓] reduceIte reduceCtorEq

theorem c_28value (b : Nat) (hb : b ≤ INF) : PC E 161 [u b] (fd b).nv := by
  refine PC.of_body follows Tryz.func161 (by decide +kernel) rfl (by kernel_rfl) (Nat.le_of_ble_eq_true rfl) (walk ?_)
  have k1 := c_Limit
  have k2 := c_Worth b (INF_W hb)
  have hI : INF = 9218868437227405312 := rfl
  by_cases h : b = INF
  · subst h
    generalize fd INF = d at *
    simp only [u, Dy.nv, DP, VN, VL] at k1 k2 ⊢
    simp only [Tryz.f161, go_sem]
    refine qif_dt (by rw [hI]; rfl) ?_
    simp only [Tryz.f161, go_sem]
    refine qcall_i (k1) ?_; simp only [Tryz.f161, go_sem]
    rfl
  · generalize fd b = d at *
    simp only [u, Dy.nv, DP, VN, VL] at k1 k2 ⊢
    simp only [Tryz.f161, go_sem]
    refine qif_df (by omega) ?_
    simp only [Tryz.f161, go_sem]
    refine qcall_i (k2) ?_; simp only [Tryz.f161, go_sem]
    rfl
set_option maxHeartbeats 4000000 in
theorem c_28By {d : Dy} (h0 : d.m ≠ 0) {tc : Dy → Int} {more : Bool} {s1 s2 rt : Bool} {n1 n2 : Nat} {l1 l2 : List PV} {e1 e2 : Int}
    (hT : ∀ n, probe n → PC E 160 [.agg [.bool s1, .lst n1 l1, .int .i64 e1, .bool s2, .lst n2 l2, .int .i64 e2, .bool rt], n.nv] (.int .i64 (tc n)))
    (ht : tcOk tc d more) {dir : Int} (hd : 0 ≤ dir ∧ dir ≤ 3) :
    PC E 107 [.bool d.s, .int .i64 dir, .agg [.bool s1, .lst n1 l1, .int .i64 e1, .bool s2, .lst n2 l2, .int .i64 e2, .bool rt]] (ansB (toS d more dir)) := by
  have hI : INF = 9218868437227405312 := rfl
  have k1 := c_Limit
  have k2 := hT (fd INF) (probe_fd (Nat.le_refl _))
  have t2 := ht (fd INF) (probe_fd (Nat.le_refl _))
  have hbl := bel_low (d := d)
  unfold ansB
  refine PC.of_body follows Tryz.func107 (by decide +kernel) rfl (by kernel_rfl) (Nat.le_of_ble_eq_true rfl) (walk ?_)
  by_cases ht1 : 1023 < d.top
  · rw [toS_big h0 ht1]
    have hl : low d = 9218868437227405312 := if_pos ht1
    rw [hl] at hbl
    have hle : tc (fd INF) ≤ 0 := by
      have := hbl.2.1
      rw [← hI] at this
      omega
    have w1 : IntKind.wrap .u64 (9218868437227405312 + 9223372036854775808) = 18442240474082181120 := by decide
    have w2 : IntKind.wrap .u64 (9218868437227405311 + 9223372036854775808) = 18442240474082181119 := by decide
    have w3 : IntKind.wrap .u64 (9218868437227405312 + 0) = 9218868437227405312 := by decide
    have w4 : IntKind.wrap .u64 (9218868437227405311 + 0) = 9218868437227405311 := by decide
    clear hbl t2 ht hT hl
    generalize tc (fd INF) = tl at *
    generalize fd INF = q at *
    simp only [u, Dy.nv, DP, VN, VL] at k1 k2 ⊢
    obtain ⟨s, m, e⟩ := d
    dsimp only
    simp only [Tryz.f107, go_sem]
    refine qcall_i (k1) ?_; simp only [Tryz.f107, go_sem]
    refine qcall_i (k2) ?_; simp only [Tryz.f107, go_sem]
    refine qif_dt hle ?_
    simp only [Tryz.f107, go_sem]
    refine PLoop.intro (fun _ : Unit => ⟨[(0, .val (.bool s)), (1, .val (.int .i64 dir)), (5, .ptr 5 0), (6, .ptr 6 0), (7, .val (.int .u64 9218868437227405312)), (8, .val (.int .u64 9218868437227405312)), (9, .val (.bool true))], [(5, (.box [.bool s1, .lst n1 l1, .int .i64 e1, .bool s2, .lst n2 l2, .int .i64 e2, .bool rt], false)), (6, (.box [.int .u64 0, .int .i64 0], false))]⟩) (fun _ => True) (fun _ => 0) () trivial ?_ fun i hj => walk ?_
    · simp [Wk, sget, killL, kill1, SV.key, hle]
    simp only [Tryz.f107, go_sem]
    cases s <;> rcases dir4 hd.1 hd.2 with rfl | rfl | rfl | rfl
    all_goals
      simp only [Tryz.f107, w1, w2, w3, w4, go_sem]
    all_goals first | rfl | skip
  have htle : d.top ≤ 1023 := by omega
  have hp := flo_ok h0 htle
  have hl : low d = packB (flo d (unitOf d.top)) (unitOf d.top) := if_neg (by omega)
  have hlI : low d < INF := by have := pack_lt_inf hp; omega
  obtain ⟨m1, m2⟩ := pos_mid h0 htle
  have hTc : ∀ c, c ≤ INF → PC E 160 [.agg [.bool s1, .lst n1 l1, .int .i64 e1, .bool s2, .lst n2 l2, .int .i64 e2, .bool rt], (fd c).nv] (.int .i64 (tc (fd c))) := fun c hc => hT _ (probe_fd hc)
  have htc : ∀ c, c ≤ INF → (tc (fd c) < 0 ↔ cmpD (fd c) d.abs < 0 ∨ (cmpD (fd c) d.abs = 0 ∧ more = true)) ∧ (0 < tc (fd c) ↔ 0 < cmpD (fd c) d.abs) := fun c hc => ht _ (probe_fd hc)
  have kM := c_7Middle (low d) hlI
  have kTM := hT _ (probe_mid7 hlI)
  have tM := ht _ (probe_mid7 hlI)
  rw [cmp_swap d.abs, cmp_mid7 hlI, m1] at tM
  have kN := c_Num 1 (by decide)
  have kTU := hT _ (probe_one (e := -1022) (by decide))
  have tU := ht _ (probe_one (e := -1022) (by decide))
  rw [cmp_swap d.abs] at tU
  have hsm := one_cmp h0 (-1022)
  have hkv := c_28value
  have hb0 : cmpD (fd 0) d.abs ≤ 0 := fd_le_trans hbl.1 (Nat.zero_le _) hbl.2.1
  have hun : ∀ c, Bel c d.abs → c = low d := fun c hc => bel_unique hc hbl
  have hz : low d = 0 → ¬ (hf d (unitOf d.top) = false ∧ bl d (unitOf d.top) = false) := fun h hh => by
    have h1 := m2.2 hh
    rw [h] at h1
    have h2 : (fd 0).ok := fd_ok' 0
    have h3 := cmp_val_eq.1 h1
    have h4 : (fd 0).val = 0 := val_zero (by decide +kernel)
    rw [h4] at h3
    exact h0 ((val_eq_zero (d := d.abs)).1 h3.symm)
  have hle0 := hbl.2.1
  rw [toS_no h0 htle, upM_low h0 htle]
  have hvS : ∀ a, vS d a = if a = true then low d + 1 else low d := fun _ => rfl
  have ws1 : IntKind.wrap .u64 ((low d : Int) + 0) = (low d : Int) := wrapu (by omega) (by show _ < 18446744073709551616; omega)
  have ws2 : IntKind.wrap .u64 ((low d : Int) + 1) = ((low d + 1 : Nat) : Int) := wrapu (by omega) (by show _ < 18446744073709551616; omega)
  have ws3 : IntKind.wrap .u64 ((low d : Int) + 9223372036854775808) = ((low d + 9223372036854775808 : Nat) : Int) := wrapu (by omega) (by show _ < 18446744073709551616; omega)
  have ws4 : IntKind.wrap .u64 (((low d + 1 : Nat) : Int) + 0) = ((low d + 1 : Nat) : Int) := wrapu (by omega) (by show _ < 18446744073709551616; omega)
  have ws5 : IntKind.wrap .u64 (((low d + 1 : Nat) : Int) + 9223372036854775808) = ((low d + 1 + 9223372036854775808 : Nat) : Int) := wrapu (by omega) (by show _ < 18446744073709551616; omega)
  have ws6 : ((low d : Int)).tmod 2 = ((low d % 2 : Nat) : Int) := n_tmod (low d) 2
  have e6 : Dy.nv ⟨false, 1, -1022⟩ = .agg [.bool false, .lst 1 [.int .u32 1], .int .i64 (-1022)] := by rw [← VN_one]; rfl
  rw [e6] at kTU
  rw [VN_one] at kN
  have hgt : 0 < tc (fd INF) := Decidable.byContradiction fun h => by
    refine h (t2.2.2 (Int.not_le.1 fun h3 => ?_))
    have := hun INF ⟨Nat.le_refl _, h3, .inl rfl⟩
    omega
  have h0I : 0 < cmpD (fd INF) d.abs := t2.2.1 hgt
  generalize mid7 (low d) = y at *
  generalize tc y = cM at *
  generalize tc ⟨false, 1, -1022⟩ = cU at *
  generalize hf d (unitOf d.top) = H at *
  generalize bl d (unitOf d.top) = L at *
  generalize cmpD d.abs ⟨false, 1, -1022⟩ = cs at *
  simp only [u, Dy.nv, DP, VN, VL] at k1 k2 hTc kM kTM kN kTU hkv ⊢
  simp only [Tryz.f107, go_sem]
  refine qcall_i (k1) ?_; simp only [Tryz.f107, go_sem]
  refine qcall_i (k2) ?_; simp only [Tryz.f107, go_sem]
  refine qif_df (by omega) ?_
  simp only [Tryz.f107, go_sem]
  refine PLoop.intro (fun i : Nat × Nat => ⟨[(0, .val (.bool d.s)), (1, .val (.int .i64 dir)), (5, .ptr 5 0), (6, .ptr 6 0), (7, .val (.int .u64 i.1)), (8, .val (.int .u64 i.2)), (9, .val (.bool false))], [(5, (.box [.bool s1, .lst n1 l1, .int .i64 e1, .bool s2, .lst n2 l2, .int .i64 e2, .bool rt], false)), (6, (.box [.int .u64 0, .int .i64 0], false))]⟩)
    (fun i => i.1 < i.2 ∧ i.2 ≤ INF ∧ cmpD (fd i.1) d.abs ≤ 0 ∧ 0 < cmpD (fd i.2) d.abs) (fun i => i.2 - i.1) (0, INF) ⟨by decide, Nat.le_refl _, hb0, h0I⟩ ?_ fun i hi => walk ?_
  · have hn : ¬ tc (fd INF) ≤ 0 := by omega
    simp [Wk, sget, killL, kill1, SV.key, hn]
    try rfl
  obtain ⟨lo, hi'⟩ := i
  obtain ⟨g1, g2, g3, g4⟩ := hi
  simp only at g1 g2 g3 g4
  have x1 : IntKind.wrap .u64 ((hi' : Int) - (lo : Int)) = ((hi' - lo : Nat) : Int) := by
    rw [show (hi' : Int) - lo = ((hi' - lo : Nat) : Int) by omega]; exact wrap_nat64 (INF_W (by omega))
  have x2 : IntKind.wrap .u64 (((hi' - lo : Nat) : Int).tdiv 2) = (((hi' - lo) / 2 : Nat) : Int) := by
    rw [show (((hi' - lo : Nat) : Int).tdiv 2) = (((hi' - lo) / 2 : Nat) : Int) from n_tdiv _ 2]; exact wrap_nat64 (INF_W (by omega))
  have x3 : IntKind.wrap .u64 ((lo : Int) + (((hi' - lo) / 2 : Nat) : Int)) = ((lo + (hi' - lo) / 2 : Nat) : Int) := by
    rw [show (lo : Int) + (((hi' - lo) / 2 : Nat) : Int) = ((lo + (hi' - lo) / 2 : Nat) : Int) by omega]; exact wrap_nat64 (INF_W (by omega))
  simp only [Tryz.f107, x1, go_sem]
  refine qif_d (fun h5 => ?_) (fun h5 => ?_)
  · have k3 := hkv (lo + (hi' - lo) / 2) (by omega)
    have k4 := hTc (lo + (hi' - lo) / 2) (by omega)
    have t4 := (htc (lo + (hi' - lo) / 2) (by omega)).2
    simp only [Tryz.f107, x1, x2, x3, go_sem]
    refine qcall_i (k3) ?_; simp only [Tryz.f107, go_sem]
    refine qcall_i (k4) ?_; simp only [Tryz.f107, go_sem]
    refine qif_d (fun h6 => ?_) (fun h6 => ?_)
    · simp only [Tryz.f107, go_sem]
      refine ⟨(lo + (hi' - lo) / 2, hi'), ⟨by dsimp only; omega, g2, by dsimp only; omega, g4⟩, by dsimp only; omega, ?_⟩
      simp [Wk, sget, killL, kill1, SV.key, NL, VL, u, e32]
    · simp only [Tryz.f107, go_sem]
      refine ⟨(lo, lo + (hi' - lo) / 2), ⟨by dsimp only; omega, by dsimp only; omega, g3, by dsimp only; omega⟩, by dsimp only; omega, ?_⟩
      simp [Wk, sget, killL, kill1, SV.key, NL, VL, u, e32]
  have e4 : hi' = lo + 1 := by omega
  subst e4
  have elo : lo = low d := hun lo ⟨by omega, g3, .inr g4⟩
  clear g1 g3 g4 x1 x2 x3 h5 g2
  simp only [Tryz.f107, go_sem]
  subst elo
  have k3 := hkv (low d) (by omega)
  have k4 := hTc (low d) (by omega)
  have t4 := htc (low d) (by omega)
  rw [show ((1 : Nat) : Int) = 1 from rfl] at kN
  clear hkv hTc htc hT ht k1 k2 t2 hbl hun hp hl hb0 hgt h0I
  obtain ⟨R, hR⟩ : ∃ R : PV, R = .agg [.int .u64 ((withS d.s (vS d (awayS dir d.s (decide (low d % 2 = 1)) H (L || more))) : Nat) : Int), .int .i64 ((if vS d (awayS dir d.s (decide (low d % 2 = 1)) H (L || more)) = INF then 5 else if (H || (L || more)) = true then (if d.top < -1022 then 3 else 1) else 0 : Nat) : Int)] := ⟨_, rfl⟩
  rw [← hR]
  rw [hvS] at hR
  clear hvS
  generalize tc (fd (low d)) = c0 at *
  generalize cmpD (fd (low d)) d.abs = q0 at *
  generalize fd (low d) = x at *
  have hlwI : low d < 9218868437227405312 := by omega
  generalize low d = lw at *
  generalize d.top = dt at *
  generalize d.s = ds at *
  have hnl : ((lw : Int) = 9218868437227405312) = False := eq_false (by omega)
  have F1 : c0 = 0 ↔ H = false ∧ L = false ∧ more = false := by
    cases H <;> cases L <;> cases more <;> simp at m2 t4 ⊢ <;> omega
  have F2 : (cM < 0 ↔ H = true ∧ (L = true ∨ more = true)) ∧ (cM = 0 ↔ H = true ∧ L = false ∧ more = false) := by
    cases H <;> cases L <;> cases more <;> simp at tM ⊢ <;> omega
  have F3 : 0 < cU ↔ dt < -1022 := by omega
  have F4 : lw = 0 → ¬ (H = false ∧ L = false) := hz
  have F5 : c0 ≤ 0 := by
    cases H <;> cases L <;> cases more <;> simp at m2 t4 ⊢ <;> omega
  clear m1 m2 tM t4 tU hz hle0 hsm
  have bnt : (!true) = false := rfl
  have bnf : (!false) = true := rfl
  cases ds <;> rcases dir4 hd.1 hd.2 with rfl | rfl | rfl | rfl
  all_goals
    simp only [Tryz.f107, ws1, ws2, ws3, ws4, ws5, ws6, hnl, go_sem]
    repeat' first
      | (with_reducible refine qcall_i k3 ?_; simp only [Tryz.f107, ws1, ws2, ws3, ws4, ws5, ws6, hnl, go_sem])
      | (with_reducible refine qcall_i k4 ?_; simp only [Tryz.f107, ws1, ws2, ws3, ws4, ws5, ws6, hnl, go_sem])
      | (with_reducible refine qcall_i kM ?_; simp only [Tryz.f107, ws1, ws2, ws3, ws4, ws5, ws6, hnl, go_sem])
      | (with_reducible refine qcall_i kTM ?_; simp only [Tryz.f107, ws1, ws2, ws3, ws4, ws5, ws6, hnl, go_sem])
      | (with_reducible refine qcall_i kN ?_; simp only [Tryz.f107, ws1, ws2, ws3, ws4, ws5, ws6, hnl, go_sem])
      | (with_reducible refine qcall_i kTU ?_; simp only [Tryz.f107, ws1, ws2, ws3, ws4, ws5, ws6, hnl, go_sem])
      | ((with_reducible refine qif_d (fun h => ?_) (fun h => ?_)) <;> simp only [Tryz.f107, ws1, ws2, ws3, ws4, ws5, ws6, hnl, go_sem])
  all_goals
    refine Eq.trans ?_ hR.symm
    clear hR k3 k4 kM kTM kN kTU ws1 ws2 ws3 ws4 ws5 ws6 hd bnt bnf hnl e6 h0 htle ht1
    cases H <;> cases L <;> cases more <;> simp_all [awayS, upw, withS] <;> (repeat' split) <;> omega
end Go.Proofs.YtejmlngnpekagaaGreatDoor
end

/- The document's quotients and roots. -/
section
open Go PG Go.Proofs
set_option maxRecDepth 100000
set_option linter.unusedSimpArgs false
set_option linter.unusedVariables false
namespace Go.Proofs.YtejmlngnpekagaaGreatDoor
attribute [local go_sem] Lay2 Lay3 Lay4 Lay5 Lay6 Lay7 Lay8 Lay9 Lay10 Lay11 Lay12 Lay13 Lay14 Lay15 Lay16 Lay17 Lay18 Lay19 Lay21 Lay22 Lay23 Lay25 Lay26 Lay27 Lay30 Lay31 Lay32 Lay33 Lay36 Lay37 Lay41 Lay42 Lay43 Lay47 Lay56 Lay57 Lay59 Lay60 Lay65 Lay66 Lay74 Lay75 Lay105 Lay114 Lay145 Lay146 Lay149 Lay150 Lay151 Lay173 Lay185 Lay189 Lay204 Lay205 Lay208 Lay214 Lay215 Lay216 Lay217 Lay218 Lay220 Lay221 Lay223 Lay224 Lay225 Lay228 qexec_seq qexec_skip qexec_exit qexec_ret qexec_block qexec_loop qexec_range qexec_cond qexec_region qexec_drawn qops_nil qops_none qops_some put_some put_none pblk_exit pblk_other newDsts_nil inlDsts_nil isInl sget_cons sget_nil qval_some qbool_some qgs_bool qgs_und qfree_some qgrd_true qgrd_false qif_true qif_false qval_ite qval_itn qand_true map_ite map_some' map_none' qdo_move qdo_assign qdo_binOp qdo_pick qdo_unOp qdo_convert qdo_extract qdo_field qdo_fieldAddr qdo_alloc qdo_box qdo_build qdo_buildSlice qdo_load qdo_store qdo_nilCheck qdo_makeFunc qdo_makeSlice qdo_slice qdo_indexAddr qdo_call qcont_val qcont_new qcont_st qcont_app0 qcont_app qcont_inl qcont_call njSV_val njSV_nil njSV_row njSV_ptr njSV_sub binV_val binV_nil binV_nn binV_ptr bin_np bin_nnp nilCmp bin_add bin_sub bin_mul bin_quo bin_rem bin_and bin_or bin_xor bin_andNot bin_eql bin_neq bin_lss bin_leq bin_gtr bin_geq bin_shl bin_shr bin_seql bin_sneq bin_sadd bin_beql bin_aeql bin_aneq eqAnd_some eqCells_nil eqCells_cons fieldTypes isStruct eqCell bin_bneq un_not un_neg nj_ite Nat.beq stepA stepR isNew opSV constSV RV.sv allSome E_mu E_own qkeyIn_none qkeyIn_some qkeyAt_none qkeyAt_some Bool.or_false Bool.false_or Bool.or_true Bool.true_or cst setB res resSV pstart startL killL kill1 eraL frzL svPV rvPV rvInt rvSlice frzOf close closeL pconv pbuiltin pmax2 partPV setCells fillPV zrow bound newSV PV.cells Bk.cells Bk.with SV.key pres presL_nil presL_tmp presL_cell presC2_some cellPV_ptr presC List.toList_toArray List.size_toArray List.getElem?_drop Nat.mul_one Int.toNat_natCast Nat.not_lt_zero Nat.lt_irrefl decide_true decide_false Nat.not_lt Option.some.injEq PV.lst.injEq PV.int.injEq PV.bool.injEq PV.tuple.injEq List.cons.injEq Option.map_some Option.map_none Option.bind_some Option.toList List.map_cons List.map_nil List.nil_append List.cons_append List.append_nil List.zip_cons_cons List.zip_nil_left List.zip_nil_right List.getElem?_cons_zero List.getElem?_cons_succ List.drop_zero List.drop_succ_cons List.take_succ_cons List.take_zero List.set_cons_zero List.set_cons_succ List.length_cons List.length_nil List.length_set List.replicate_one List.replicate_zero bne_self_eq_false beq_self_eq_true Nat.zero_add Nat.add_zero Nat.zero_mul Bool.false_eq_true Bool.true_eq_false Bool.not_true Bool.not_false and_true true_and false_and and_false or_false false_or or_true true_or not_true_eq_false not_false_eq_true ne_eq gt_iff_lt List.mem_cons List.not_mem_nil
attribute [local go_sem ↓] pseq_normal pseq_ret pseq_exit pblk_normal pblk_ret newDsts_cons inlDsts_cons gdst_zero gdst_succ retQ_normal retQ_ret qneed_nil qneed_cons retM_normal retM_ret endR_normal endR_ret endR_exit
attribute [local go_sem] Int.reduceToNat Int.reduceEq Int.reduceNe Int.reduceLT Int.reduceLE Int.reduceNeg Int.reduceAdd Nat.reduceEqDiff Nat.reduceAdd Nat.reduceSub Nat.reduceMul Nat.reduceLeDiff Nat.reduceLT
attribute [local go_sem ↓] reduceIte reduceCtorEq

theorem mulS_rng {K J : Nat} {a b : Dy} (ha : LimN K a) (hb : LimN J b) : bitLen (mulS a b).m ≤ 2 * K + 2 * J ∧ -((K + J : Nat) : Int) ≤ (mulS a b).e ∧ (mulS a b).e ≤ ((K + J : Nat) : Int) := by
  have h1 := ha.bits
  have h2 := hb.bits
  have h3 := ha.2.2
  have h4 := hb.2.2
  have h5 := bitLen_mul_le a.m b.m
  unfold mulS
  split
  · have : bitLen Dy.zero.m = 0 := by decide
    have e0 : Dy.zero.e = 0 := rfl
    omega
  · dsimp only
    omega
theorem c_TCmpQ {K J : Nat} {a b n : Dy} (ha : LimN K a) (hb : LimN J b) (hn : probe n) (hK : K ≤ 100000) (hJ : J ≤ 100000) : PC E 160 [.agg [.bool a.s, .lst (dg B a.m).length (V (dg B a.m)), .int .i64 a.e, .bool b.s, .lst (dg B b.m).length (V (dg B b.m)), .int .i64 b.e, .bool false], n.nv] (.int .i64 (cmpD (mulS n b) a)) := by
  have km := l_28Mul hn.1 hb (by omega)
  have h1 := mulS_rng hn.1 hb
  have h2 := ha.bits
  have h3 := ha.2.2
  have kc := k_5Cmp (a := mulS n b) (b := a) (by omega) (by omega) (by omega) (by omega)
  generalize mulS n b = p at *
  simp only [Dy.nv, DP, VN, VL] at km kc ⊢
  refine PC.of_body follows Tryz.func160 (by decide +kernel) rfl (by kernel_rfl) (Nat.le_of_ble_eq_true rfl) (walk ?_)
  simp only [Tryz.f160, go_sem]
  refine qcall_i (km) ?_; simp only [Tryz.f160, go_sem]
  refine qcall_i (kc) ?_; simp only [Tryz.f160, go_sem]
  try rfl
theorem c_TCmpR {K : Nat} {a n : Dy} {s2 : Bool} {n2 : Nat} {l2 : List PV} {e2 : Int} (ha : LimN K a) (hn : probe n) (hK : K ≤ 100000) : PC E 160 [.agg [.bool a.s, .lst (dg B a.m).length (V (dg B a.m)), .int .i64 a.e, .bool s2, .lst n2 l2, .int .i64 e2, .bool true], n.nv] (.int .i64 (cmpD (mulS n n) a)) := by
  have km := l_28Mul hn.1 hn.1 (by omega)
  have h1 := mulS_rng hn.1 hn.1
  have h2 := ha.bits
  have h3 := ha.2.2
  have kc := k_5Cmp (a := mulS n n) (b := a) (by omega) (by omega) (by omega) (by omega)
  generalize mulS n n = p at *
  simp only [Dy.nv, DP, VN, VL] at km kc ⊢
  refine PC.of_body follows Tryz.func160 (by decide +kernel) rfl (by kernel_rfl) (Nat.le_of_ble_eq_true rfl) (walk ?_)
  simp only [Tryz.f160, go_sem]
  refine qcall_i (km) ?_; simp only [Tryz.f160, go_sem]
  refine qcall_i (kc) ?_; simp only [Tryz.f160, go_sem]
  try rfl
theorem c_28test {s1 s2 rt : Bool} {n1 n2 : Nat} {l1 l2 : List PV} {e1 e2 : Int} : PC E 108 [.agg [.bool s1, .lst n1 l1, .int .i64 e1], .agg [.bool s2, .lst n2 l2, .int .i64 e2], .bool rt] (.agg [.bool s1, .lst n1 l1, .int .i64 e1, .bool s2, .lst n2 l2, .int .i64 e2, .bool rt]) := by
  refine PC.of_body follows Tryz.func108 (by decide +kernel) rfl (by kernel_rfl) (Nat.le_of_ble_eq_true rfl) (walk ?_)
  simp only [Tryz.f108, go_sem]
  try rfl
theorem partD_m0 {a b : Dy} (ha : a.m ≠ 0) (hb : b.m ≠ 0) : (partD a b).m ≠ 0 ∧ (partD a b).s = (a.s != b.s) := by
  have hq := (part_pos (b := b) ha).resolve_right hb
  have h0 : a.m * 2 ^ partN a b / b.m ≠ 0 := fun h => by rw [h] at hq; exact absurd hq (by decide)
  exact ⟨fun h => h0 (mkD_m0.1 h), mkD_s h0⟩
theorem c_28Quotient {a b : Dy} (ha : a.m ≠ 0) (hb : b.m ≠ 0) (ba : bitLen a.m ≤ 4400) (bb : bitLen b.m ≤ 4400) (ea : -20000 ≤ a.e ∧ a.e ≤ 20000) (eb : -20000 ≤ b.e ∧ b.e ≤ 20000) {dir : Int} (hd : 0 ≤ dir ∧ dir ≤ 3) :
    PC E 47 [a.nv, b.nv, .int .i64 dir] (ansB (toS (partD a b) (partR a b) dir)) := by
  have hla : LimN 30000 a.abs := LimN.mk (n := 4400) (J := 20000) ba ea (by decide)
  have hlb : LimN 30000 b.abs := LimN.mk (n := 4400) (J := 20000) bb eb (by decide)
  obtain ⟨h1, h2⟩ := partD_m0 ha hb
  have kb := c_28By h1 (tc := fun n => cmpD (mulS n b.abs) a.abs) (fun n hn => c_TCmpQ hla hlb hn (by decide) (by decide)) (tc_quo ha hb ba bb ea eb) hd
  rw [h2] at kb
  have kt := @c_28test false false false
  unfold ansB at kb ⊢
  generalize toS (partD a b) (partR a b) dir = T at *
  simp only [Dy.abs, Dy.nv, DP, VN, VL] at kb ⊢
  refine PC.of_body follows Tryz.func47 (by decide +kernel) rfl (by kernel_rfl) (Nat.le_of_ble_eq_true rfl) (walk ?_)
  simp only [Tryz.f47, go_sem]
  refine qcall_i (kt) ?_; simp only [Tryz.f47, go_sem]
  refine qcall_i (kb) ?_; simp only [Tryz.f47, go_sem]
  try rfl
theorem c_28Root {a : Dy} (ha : a.m ≠ 0) (hs : a.s = false) (ba : bitLen a.m ≤ 4400) (ea : -20000 ≤ a.e ∧ a.e ≤ 20000) {r : Nat} (hr : Isq (rootM a) r) {dir : Int} (hd : 0 ≤ dir ∧ dir ≤ 3) :
    PC E 46 [a.nv, .int .i64 dir] (ansB (toS (rootD a r) (decide (r * r ≠ rootM a)) dir)) := by
  have hla : LimN 30000 a := LimN.mk (n := 4400) (J := 20000) ba ea (by decide)
  have hr1 := isq_pos hr (rootM_pos ha)
  have h1 : (rootD a r).m ≠ 0 := fun h => by have := mkD_m0.1 h; omega
  have h2 : (rootD a r).s = false := mkD_s (by omega)
  have kb := c_28By h1 (tc := fun n => cmpD (mulS n n) a) (fun n hn => c_TCmpR (s2 := false) (n2 := 0) (l2 := []) (e2 := 0) hla hn (by decide)) (tc_root ha hs ba ea hr) hd
  rw [h2] at kb
  have kt := @c_28test a.s false true
  unfold ansB at kb ⊢
  generalize toS (rootD a r) (decide (r * r ≠ rootM a)) dir = T at *
  simp only [Dy.nv, DP, VN, VL] at kb ⊢
  refine PC.of_body follows Tryz.func46 (by decide +kernel) rfl (by kernel_rfl) (Nat.le_of_ble_eq_true rfl) (walk ?_)
  simp only [Tryz.f46, go_sem]
  refine qcall_i (kt) ?_; simp only [Tryz.f46, go_sem]
  refine qcall_i (kb) ?_; simp only [Tryz.f46, go_sem]
  try rfl
end Go.Proofs.YtejmlngnpekagaaGreatDoor
end

/- The document's division and square root of bits. -/
section
open Go PG Go.Proofs
set_option maxRecDepth 100000
set_option linter.unusedSimpArgs false
set_option linter.unusedVariables false
namespace Go.Proofs.YtejmlngnpekagaaGreatDoor
attribute [local go_sem] Lay2 Lay3 Lay4 Lay5 Lay6 Lay7 Lay8 Lay9 Lay10 Lay11 Lay12 Lay13 Lay14 Lay15 Lay16 Lay17 Lay18 Lay19 Lay21 Lay22 Lay23 Lay25 Lay26 Lay27 Lay30 Lay31 Lay32 Lay33 Lay36 Lay37 Lay41 Lay42 Lay43 Lay47 Lay56 Lay57 Lay59 Lay60 Lay65 Lay66 Lay74 Lay75 Lay105 Lay114 Lay145 Lay146 Lay149 Lay150 Lay151 Lay173 Lay185 Lay189 Lay204 Lay205 Lay208 Lay214 Lay215 Lay216 Lay217 Lay218 Lay220 Lay221 Lay223 Lay224 Lay225 Lay228 qexec_seq qexec_skip qexec_exit qexec_ret qexec_block qexec_loop qexec_range qexec_cond qexec_region qexec_drawn qops_nil qops_none qops_some put_some put_none pblk_exit pblk_other newDsts_nil inlDsts_nil isInl sget_cons sget_nil qval_some qbool_some qgs_bool qgs_und qfree_some qgrd_true qgrd_false qif_true qif_false qval_ite qval_itn qand_true map_ite map_some' map_none' qdo_move qdo_assign qdo_binOp qdo_pick qdo_unOp qdo_convert qdo_extract qdo_field qdo_fieldAddr qdo_alloc qdo_box qdo_build qdo_buildSlice qdo_load qdo_store qdo_nilCheck qdo_makeFunc qdo_makeSlice qdo_slice qdo_indexAddr qdo_call qcont_val qcont_new qcont_st qcont_app0 qcont_app qcont_inl qcont_call njSV_val njSV_nil njSV_row njSV_ptr njSV_sub binV_val binV_nil binV_nn binV_ptr bin_np bin_nnp nilCmp bin_add bin_sub bin_mul bin_quo bin_rem bin_and bin_or bin_xor bin_andNot bin_eql bin_neq bin_lss bin_leq bin_gtr bin_geq bin_shl bin_shr bin_seql bin_sneq bin_sadd bin_beql bin_aeql bin_aneq eqAnd_some eqCells_nil eqCells_cons fieldTypes isStruct eqCell bin_bneq un_not un_neg nj_ite Nat.beq stepA stepR isNew opSV constSV RV.sv allSome E_mu E_own qkeyIn_none qkeyIn_some qkeyAt_none qkeyAt_some Bool.or_false Bool.false_or Bool.or_true Bool.true_or cst setB res resSV pstart startL killL kill1 eraL frzL svPV rvPV rvInt rvSlice frzOf close closeL pconv pbuiltin pmax2 partPV setCells fillPV zrow bound newSV PV.cells Bk.cells Bk.with SV.key pres presL_nil presL_tmp presL_cell presC2_some cellPV_ptr presC List.toList_toArray List.size_toArray List.getElem?_drop Nat.mul_one Int.toNat_natCast Nat.not_lt_zero Nat.lt_irrefl decide_true decide_false Nat.not_lt Option.some.injEq PV.lst.injEq PV.int.injEq PV.bool.injEq PV.tuple.injEq List.cons.injEq Option.map_some Option.map_none Option.bind_some Option.toList List.map_cons List.map_nil List.nil_append List.cons_append List.append_nil List.zip_cons_cons List.zip_nil_left List.zip_nil_right List.getElem?_cons_zero List.getElem?_cons_succ List.drop_zero List.drop_succ_cons List.take_succ_cons List.take_zero List.set_cons_zero List.set_cons_succ List.length_cons List.length_nil List.length_set List.replicate_one List.replicate_zero bne_self_eq_false beq_self_eq_true Nat.zero_add Nat.add_zero Nat.zero_mul Bool.false_eq_true Bool.true_eq_false Bool.not_true Bool.not_false and_true true_and false_and and_false or_false false_or or_true true_or not_true_eq_false not_false_eq_true ne_eq gt_iff_lt List.mem_cons List.not_mem_nil
attribute [local go_sem ↓] pseq_normal pseq_ret pseq_exit pblk_normal pblk_ret newDsts_cons inlDsts_cons gdst_zero gdst_succ retQ_normal retQ_ret qneed_nil qneed_cons retM_normal retM_ret endR_normal endR_ret endR_exit
attribute [local go_sem] Int.reduceToNat Int.reduceEq Int.reduceNe Int.reduceLT Int.reduceLE Int.reduceNeg Int.reduceAdd Nat.reduceEqDiff Nat.reduceAdd Nat.reduceSub Nat.reduceMul Nat.reduceLeDiff Nat.reduceLT
attribute [local go_sem ↓] reduceIte reduceCtorEq

set_option maxHeartbeats 4000000 in
theorem c_28Div {x y : Nat} (hx : x < W) (hy : y < W) {dir : Int} (hd : 0 ≤ dir ∧ dir ≤ 3) (h3 : kind x ≤ 3 ∧ kind y ≤ 3) :
    PC E 48 [u x, u y, .int .i64 dir] (ansB (divS x y dir)) := by
  have kx := c_rKind x hx
  have ky := c_rKind y hy
  have wx := c_Worth x hx
  have wy := c_Worth y hy
  have kq : (kind x = 1 ∨ kind x = 2) → (kind y = 1 ∨ kind y = 2) → PC E 47 [(fd x).nv, (fd y).nv, .int .i64 dir] (ansB (toS (partD (fd x) (fd y)) (partR (fd x) (fd y)) dir)) := fun h1 h2 => by
    have e1 := fd_e x
    have e2 := fd_e y
    have b1 := fd_bits x
    have b2 := fd_bits y
    exact c_28Quotient (fd_may h1).2.1 (fd_may h2).2.1 (by omega) (by omega) (by omega) (by omega) hd
  obtain ⟨R, hR⟩ : ∃ R, R = divS x y dir := ⟨_, rfl⟩
  rw [← hR]
  unfold divS at hR
  rw [if_neg (by omega), if_neg (by omega)] at hR
  have hsg : sgB x y = if (fs x != fs y) = true then 9223372036854775808 else 0 := rfl
  have gx := ge_fs x
  have gy := ge_fs y
  have z2 : IntKind.wrap .u64 (9218868437227405312 + 9223372036854775808) = 18442240474082181120 := by decide
  have z3 : IntKind.wrap .u64 (9218868437227405312 + 0) = 9218868437227405312 := by decide
  have o1 : (9218868437227405312 ||| 9223372036854775808 : Nat) = 18442240474082181120 := by decide
  have o2 : (9218868437227405312 ||| 0 : Nat) = 9218868437227405312 := by decide
  rw [hsg] at hR
  clear hsg hx hy
  generalize toS (partD (fd x) (fd y)) (partR (fd x) (fd y)) dir = To at *
  generalize kind x = a at *
  generalize kind y = b at *
  generalize fd x = dx at *
  generalize fd y = dy at *
  unfold ansB at *
  simp only [u, Dy.nv, DP, VN, VL] at kx ky wx wy kq ⊢
  generalize fs x = sx at *
  generalize fs y = sy at *
  refine PC.of_body follows Tryz.func48 (by decide +kernel) rfl (by kernel_rfl) (Nat.le_of_ble_eq_true rfl) (walk ?_)
  simp only [Tryz.f48, gx, gy, go_sem]
  refine qcall_i (kx) ?_; simp only [Tryz.f48, gx, gy, go_sem]
  refine qcall_i (ky) ?_; simp only [Tryz.f48, gx, gy, go_sem]
  generalize (sx != sy) = n at *
  clear gx gy kx ky
  by_cases hab : (a = 1 ∨ a = 2) ∧ (b = 1 ∨ b = 2)
  · have kq := kq hab.1 hab.2
    rw [if_neg (by omega), if_neg (by omega), if_neg (by omega), if_neg (by omega)] at hR
    have a3 : ((a : Int) = 3) = False := eq_false (by omega)
    have b3 : ((b : Int) = 3) = False := eq_false (by omega)
    have a0 : ((a : Int) = 0) = False := eq_false (by omega)
    have b0 : ((b : Int) = 0) = False := eq_false (by omega)
    cases n <;>
    simp only [Tryz.f48, a3, b3, a0, b0, go_sem]
    all_goals
      refine qcall_i (wx) ?_; simp only [Tryz.f48, go_sem]
      refine qcall_i (wy) ?_; simp only [Tryz.f48, go_sem]
      refine qcall_i (kq) ?_; simp only [Tryz.f48, go_sem]
      rw [hR]
      try rfl
  · clear kq wx wy
    cases n <;> simp only [Bool.false_eq_true, if_true, if_false] at hR <;>
    simp only [Tryz.f48, z2, z3, go_sem]
    all_goals repeat' first
      | ((with_reducible refine qif_d (fun h => ?_) (fun h => ?_)) <;> simp only [Tryz.f48, z2, z3, go_sem])
      | ((repeat' split at hR) <;> first | (exfalso; omega) | (rw [hR]; rfl) | (rw [hR]; simp [o1, o2]; done))
set_option maxHeartbeats 4000000 in
theorem c_28Sqrt {x r : Nat} (hx : x < W) (hr : Isq (rootM (fd x)) r) {dir : Int} (hd : 0 ≤ dir ∧ dir ≤ 3) (h3 : kind x ≤ 3) :
    PC E 49 [u x, .int .i64 dir] (ansB (sqrtS x r dir)) := by
  have kx := c_rKind x hx
  have wx := c_Worth x hx
  have kq : (kind x = 1 ∨ kind x = 2) → fs x = false → PC E 46 [(fd x).nv, .int .i64 dir] (ansB (toS (rootD (fd x) r) (decide (r * r ≠ rootM (fd x))) dir)) := fun h1 h2 => by
    have e1 := fd_e x
    have b1 := fd_bits x
    have hm := (fd_may h1).2.1
    exact c_28Root hm (by rw [fd_s hm, h2]) (by omega) (by omega) hr hd
  obtain ⟨R, hR⟩ : ∃ R, R = sqrtS x r dir := ⟨_, rfl⟩
  rw [← hR]
  unfold sqrtS at hR
  rw [if_neg (by omega), if_neg (by omega)] at hR
  have gx := ge_fs x
  clear hx hr
  generalize toS (rootD (fd x) r) (decide (r * r ≠ rootM (fd x))) dir = To at *
  generalize kind x = a at *
  generalize fd x = dx at *
  unfold ansB at *
  simp only [u, Dy.nv, DP, VN, VL] at kx wx kq ⊢
  generalize fs x = sx at *
  refine PC.of_body follows Tryz.func49 (by decide +kernel) rfl (by kernel_rfl) (Nat.le_of_ble_eq_true rfl) (walk ?_)
  simp only [Tryz.f49, gx, go_sem]
  refine qcall_i (kx) ?_; simp only [Tryz.f49, gx, go_sem]
  refine qif_d (fun h => ?_) (fun h => ?_)
  · rw [if_pos (by omega)] at hR
    simp only [Tryz.f49, go_sem]
    rw [hR]
    try rfl
  rw [if_neg (by omega)] at hR
  cases sx
  case true =>
    rw [if_pos rfl] at hR
    simp only [Tryz.f49, gx, go_sem]
    rw [hR]
    try rfl
  rw [if_neg (by decide)] at hR
  simp only [Tryz.f49, gx, go_sem]
  refine qif_d (fun h => ?_) (fun h => ?_)
  · rw [if_pos (by omega)] at hR
    simp only [Tryz.f49, go_sem]
    rw [hR]
    try rfl
  rw [if_neg (by omega)] at hR
  have kq := kq (by omega) rfl
  simp only [Tryz.f49, go_sem]
  refine qcall_i (wx) ?_; simp only [Tryz.f49, go_sem]
  refine qcall_i (kq) ?_; simp only [Tryz.f49, go_sem]
  rw [hR]
  try rfl
theorem sqrtS_fl (x r : Nat) (dir : Int) : (sqrtS x r dir).2 < 256 := by
  have h := toS_fl (rootD (fd x) r) (decide (r * r ≠ rootM (fd x))) dir
  unfold sqrtS
  repeat' split
  all_goals first | exact h | simp
theorem sqrtS_early {x r w : Nat} (dir : Int) (h0 : w = 0 ↔ kind x ≤ 3) (h5 : w = 5 ↔ kind x = 5) (h : w ≠ 0) : earlyS w = sqrtS x r dir := by
  have h1 := kind_le x
  unfold earlyS sqrtS
  by_cases hw : w = 5
  · rw [if_pos hw, if_pos (h5.1 hw)]
  · rw [if_neg hw, if_neg (fun h => hw (h5.2 h)), if_pos (by omega)]
end Go.Proofs.YtejmlngnpekagaaGreatDoor
end
