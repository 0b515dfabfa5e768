import Derived.Test.YtfkgaldbcngliaaGreatDoorLWholeTotal
import Derived.Test.YtfkgaldbcngliaaGreatDoorRoL
open Go PG Go.Proofs
set_option maxRecDepth 100000
set_option linter.unusedSimpArgs false
set_option linter.unusedVariables false
namespace Go.Proofs.YtfkgaldbcngliaaGreatDoor
open XX
theorem toS_zero {d : Dy} (h0 : d.m ≠ 0) {more : Bool} {dir : Int} (h : (toS d more dir).2 = 0) : more = false ∧ d.top ≤ 1023 ∧ hf d (unitOf d.top) = false ∧ bl d (unitOf d.top) = false := by
  by_cases ht : 1023 < d.top
  · rw [toS_big h0 ht] at h; cases h
  have ht : d.top ≤ 1023 := by omega
  rw [toS_no h0 ht] at h
  dsimp only at h
  split at h
  · cases h
  · split at h
    · split at h <;> cases h
    · rename_i hh
      refine ⟨?_, ht, ?_, ?_⟩ <;> revert hh <;> cases hf d (unitOf d.top) <;> cases bl d (unitOf d.top) <;> cases more <;> simp
theorem fd_low {d : Dy} (hok : d.ok) (h0 : d.m ≠ 0) (ht : d.top ≤ 1023) (h1 : hf d (unitOf d.top) = false) (h2 : bl d (unitOf d.top) = false) : fd (low d) = d.abs ∧ low d < INF ∧ low d ≠ 0 := by
  have hx := (pos_mid h0 ht).2.2 ⟨h1, h2⟩
  have he := (cmp_eq (fd_ok' _) (abs_ok hok)).1 hx
  have hlt : low d < INF := by
    have hl : low d = packB (flo d (unitOf d.top)) (unitOf d.top) := if_neg (by omega)
    rw [hl]; exact pack_lt_inf (flo_ok h0 ht)
  refine ⟨he, hlt, fun hz => ?_⟩
  rw [hz] at he
  have : (fd 0).m = 0 := by decide
  rw [he] at this
  exact h0 this
theorem toS_exact {d : Dy} (hok : d.ok) (h0 : d.m ≠ 0) (hs : d.s = false) {more : Bool} {dir : Int} (h : (toS d more dir).2 = 0) :
    ∃ b, b < INF ∧ b ≠ 0 ∧ fd b = d ∧ toS d more dir = (b, 0) := by
  obtain ⟨rfl, ht, h1, h2⟩ := toS_zero h0 h
  obtain ⟨e1, e2, e3⟩ := fd_low hok h0 ht h1 h2
  have ea : d.abs = d := by unfold Dy.abs; rw [← hs]
  rw [ea] at e1
  have hI := INF_lt
  have hfz : fsz (low d) = low d := Nat.mod_eq_of_lt (by omega)
  refine ⟨low d, e2, e3, e1, ?_⟩
  have := toS_fd (b := low d) (fsz_INF.2 (by rw [hfz]; exact e2)) dir
  rw [e1, hfz, if_neg e3, fs_small (by omega)] at this
  exact this
theorem toS_nobrk {d : Dy} (hok : d.ok) (h0 : d.m ≠ 0) (hb : ¬ brkP d) (more : Bool) (dir : Int) : (toS d more dir).2 ≠ 0 := fun h => by
  obtain ⟨-, ht, h1, h2⟩ := toS_zero h0 h
  refine hb (.inr ?_)
  rw [if_neg (by omega)]
  -- the unit divides it: hf and bl are 0
  refine Int.not_lt.1 fun hlt => ?_
  unfold bl at h2
  have h3 := of_decide_eq_false h2
  have h4 : d.m * 2 ^ (d.e - (unitOf d.top - 1)).toNat % 2 ^ (unitOf d.top - 1 - d.e).toNat = 0 := Decidable.byContradiction h3
  have hod := hok.resolve_left (fun h => h0 (by rw [h]; rfl))
  rw [show (d.e - (unitOf d.top - 1)).toNat = 0 by omega, Nat.pow_zero, Nat.mul_one] at h4
  obtain ⟨n, hn⟩ : ∃ n, (unitOf d.top - 1 - d.e).toNat = n + 1 := ⟨(unitOf d.top - 1 - d.e).toNat - 1, by omega⟩
  rw [hn, Nat.pow_succ] at h4
  have h5 := Nat.dvd_of_mod_eq_zero h4
  have h6 : 2 ∣ d.m := Nat.dvd_trans (Nat.dvd_mul_left 2 (2 ^ n)) h5
  omega
theorem roundS_inx {i : Iv} {neg : Bool} {dir : Int} {r : Nat × Nat} {K : Nat} (hl : i.lim K) (hK : K ≤ 200000) (h : roundS i neg dir = some r) : r.2 ≠ 0 := by
  unfold roundS at h
  split at h
  · rename_i hc
    cases h
    have h1 := hc.1.2.1
    have hb : ¬ brkP i.lo := fun hb => h1 ⟨hl.1.fits (by omega), hb⟩
    have h0 := sg_m0 hc.1.1.2
    refine toS_nobrk (sgnD_lim hl.1 neg).ok (by rw [sgnD_m]; exact h0) ?_ _ _
    -- the sign plays no part in a breakpoint
    intro hb'
    refine hb ?_
    unfold sgnD Dy.neg at hb'
    cases neg with
    | true => rw [if_pos rfl, if_neg h0] at hb'; exact hb'
    | false => rw [if_neg Bool.false_ne_true] at hb'; exact hb'
  · cases h
theorem toS_more {d : Dy} (h0 : d.m ≠ 0) (dir : Int) : (toS d true dir).2 ≠ 0 := fun h => absurd (toS_zero h0 h).1 (by decide)
theorem classS_inx (c : Int) (neg : Bool) (dir : Int) : (classS c neg dir).2 ≠ 0 := by
  unfold classS
  split
  · show (5 : Nat) ≠ 0; decide
  split
  · show (3 : Nat) ≠ 0; decide
  split
  · exact toS_more (by cases neg <;> decide) dir
  · exact toS_more (by cases neg <;> decide) dir
theorem goS_found {A : Nat → (Nat × Nat) × Iv} {ok : Nat → Bool} : ∀ (l : List Nat) (v : (Nat × Nat) × Iv) (b t : Nat), (goS A ok l v b t).2 = 0 → ∃ n ∈ l, ok n = true ∧ (goS A ok l v b t).1.1 = A n
  | [], v, b, t, h => by cases h
  | n :: l, v, b, t, h => by
    unfold goS at h ⊢
    split at h
    · rename_i hk
      rw [if_pos hk]
      exact ⟨n, by simp, hk, rfl⟩
    · rename_i hk
      rw [if_neg hk]
      obtain ⟨m, h1, h2, h3⟩ := goS_found l (A n) n (t + 1) h
      exact ⟨m, by simp [h1], h2, h3⟩
theorem tryS_inx {a : Ask} (ha : AskOk a) (sign : Int) {b : Nat} (hb : 32 ≤ b) (hok : (tryS a sign b).2 = true) : (tryS a sign b).1.1.2 ≠ 0 := by
  have hsc := scS_range (y := a.y) hb
  unfold tryS at hok ⊢
  by_cases h1 : boundS (zS a b) sign ≠ 0
  · rw [if_pos h1]; exact classS_inx _ _ _
  rw [if_neg h1] at hok ⊢
  by_cases h2 : splitOk (zS a b) (scS a.y b)
  · rw [if_pos h2] at hok ⊢
    have hl := expI_lim (i := zS a b) (s := scS a.y b) (by omega) (by omega) h2
    cases hr : roundS (expI (zS a b) (scS a.y b)) a.neg a.dir with
    | some r => exact roundS_inx hl (by decide) hr
    | none => rw [hr] at hok; cases hok
  · rw [if_neg h2] at hok; cases hok
theorem doS_zero {a : Ask} (ha : AskOk a) (h : (doS a).2.1 = 0) : ∃ d, exactO a = some d ∧ (toS (sgnD d a.neg) false a.dir).2 = 0 ∧ doS a = ((toS (sgnD d a.neg) false a.dir).1, 0, 0, 0) := by
  unfold doS at h ⊢
  cases hx : exactO a with
  | some d =>
    rw [hx] at h
    dsimp only at h ⊢
    exact ⟨d, rfl, h, by rw [h]⟩
  | none =>
    rw [hx] at h
    dsimp only at h
    split at h
    · rename_i hr
      obtain ⟨n, h1, h2, h3⟩ := goS_found _ _ _ _ hr
      have h4 := tryS_inx ha (sgS a) (planS_range ha.plan h1).1 h2
      have h5 : (runS a).1.1.1.2 = (tryS a (sgS a) n).1.1.2 := by
        show (goS _ _ _ _ _ _).1.1.1.2 = _
        rw [h3]
      dsimp only at h
      rw [h5] at h
      exact absurd h h4
    · split at h
      · rename_i r hr
        have := (or1 (looseS_fl hr)).2
        dsimp only at h
        rw [h] at this
        cases this
      · cases h
end Go.Proofs.YtfkgaldbcngliaaGreatDoor
