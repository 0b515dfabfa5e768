/- strconv.ParseInt at base 10, every text; what is parsed of digits. -/
import Derived.Test.YtmnojbkakgfinaaDoorJbX
import Derived.Test.YtmnojbkakgfinaaDoorJb1
import Derived.Lib.ParseIntBTie
open Go PG Go.Proofs Go.RowKit
set_option maxRecDepth 100000
set_option linter.unusedSimpArgs false
set_option linter.unusedVariables false
namespace Go.Proofs.YtmnojbkakgfinaaDoor

/-- The number that ParseInt gives, whatever the text. -/
def piV (l : List UInt8) : Int := match Lib.parseIntB 64 l with
  | .ok v => v
  | .range => Lib.intSat 64 l
  | _ => 0
theorem piV_rng (l : List UInt8) : -9223372036854775808 ≤ piV l ∧ piV l ≤ 9223372036854775807 := by
  unfold piV
  split
  · rename_i v h
    rw [Lib.parseIntB_64] at h
    exact Lib.atoiAll_bounds h
  · rw [Lib.intSat_64]; exact Lib.atoiSat_bounds l
  · omega
theorem parseInt_third (s : ByteArray) (hlim : s.size ≤ 281474976710656) (h1 : ∀ v, Lib.parseIntB 64 s.data.toList ≠ .ok v) (h2 : Lib.parseIntB 64 s.data.toList ≠ .range) (tp : TypeId) (p : Value) (w : World) (hv : w.cell? ⟨1, 0, none⟩ = some (.iface tp p)) :
    Calls Tryd.prog 31 #[.string s, .int .i64 10, .int .i64 64] w fun e w' => ∃ v2, e = .returned (.tuple #[.int .i64 0, v2]) ∧ Below w.heap.size w w' := by
  cases h : Lib.parseIntB 64 s.data.toList with
  | ok v => exact absurd h (h1 v)
  | range => exact absurd h h2
  | _ =>
    refine (Any.strconv_ParseInt_10_at64_syntax Tryd.laysC174 s hlim h _ w hv (.inr ⟨_, _, rfl⟩)).mono ?_
    rintro e w' ⟨N, rfl, _, _, hb⟩
    exact ⟨_, rfl, hb⟩
theorem s_ParseInt {l : List UInt8} (hl : l.length ≤ 100000) : PC E 31 [TX l, .int .i64 10, .int .i64 64] (.tuple [.int .i64 (piV l), .any]) := by
  intro w Pr vs hPr hG hsz0 hreps
  have hsz : vs.size = 3 := hsz0
  have h0 := (hreps 0 _ _ rfl (Array.getElem?_eq_getElem (by omega)) : Rep _ (.str _) _).str_inv
  have h1 := (hreps 1 _ _ rfl (Array.getElem?_eq_getElem (by omega)) : Rep _ (.int _ _) _).int_inv
  have h2 := (hreps 2 _ _ rfl (Array.getElem?_eq_getElem (by omega)) : Rep _ (.int _ _) _).int_inv
  obtain rfl : vs = #[.string (B8 l), .int .i64 10, .int .i64 64] := by
    refine Array.ext (by simpa using hsz) fun i hi hj => ?_
    have hi5 : i = 0 ∨ i = 1 ∨ i = 2 := by omega
    rcases hi5 with rfl | rfl | rfl <;> simp [h0, h1, h2]
  have hent : ∀ (vs : Array Value) (w : World), (callFunc 31 vs).run E.P w = .ok (.enter 31 vs) w := enters_of Tryd.func31 (by kernel_rfl) rfl
  rw [hent]
  refine ⟨rfl, ?_⟩
  clear hreps hsz0 h0 h1 h2
  obtain ⟨tr, pr, hr⟩ := ifc_cell (hG 2 ifcT rfl)
  obtain ⟨ts, ps, hs⟩ := ifc_cell (hG 1 ifcT rfl)
  have hbz : (B8 l).size = l.length := B8_size l
  have two : ∀ (v : Int) (x : Value) (g : Addr → Option Value), Rep g (.tuple [.int .i64 v, .any]) (.tuple #[.int .i64 v, x]) := fun v x g => Rep.tuple _ _ rfl fun j p y hp hy => by
    match j with
    | 0 => cases hp; cases hy; exact .int _ _
    | 1 => cases hp; cases hy; exact .any _
    | j + 2 => simp at hp
  by_cases h2 : Lib.parseIntB 64 l = .range
  · have hv : piV l = Lib.intSat 64 l := by unfold piV; rw [h2]
    rw [hv]
    refine (Any.strconv_ParseInt_10_at64_range Tryd.laysC174 (B8 l) (by omega) (by rw [B8_data]; exact h2) _ w hr (.inr ⟨_, _, rfl⟩)).mono ?_
    rintro e w' ⟨N, rfl, _, _, hb⟩
    rw [B8_data]
    exact ⟨_, rfl, two _ _ _, hb⟩
  by_cases h1 : ∃ v, Lib.parseIntB 64 l = .ok v
  · obtain ⟨v, h1⟩ := h1
    have hv : piV l = v := by unfold piV; rw [h1]
    rw [hv]
    refine (Tryd.strconv_ParseInt_10_at64_ok (B8 l) (by omega) v (by rw [B8_data]; exact h1) w).mono ?_
    rintro e w' ⟨rfl, hb⟩
    refine ⟨_, rfl, two _ _ _, ?_⟩
    rcases hb with rfl | ⟨t, rfl⟩
    · exact Below.refl _ _
    · exact Lib.bytesWorld_below w _ t
  · have hv : piV l = 0 := by
      unfold piV
      split
      · rename_i v h; exact absurd ⟨v, h⟩ h1
      · rename_i h; exact absurd h h2
      · rfl
    rw [hv]
    refine (parseInt_third (B8 l) (by omega) (by rw [B8_data]; exact fun v h => h1 ⟨v, h⟩) (by rw [B8_data]; exact h2) ts ps w hs).mono ?_
    rintro e w' ⟨v2, rfl, hb⟩
    exact ⟨_, rfl, two _ _ _, hb⟩
theorem parse10_app : ∀ (l r : List UInt8) (acc m : Nat), Lib.parseUint10 acc l = .ok m → Lib.parseUint10 acc (l ++ r) = Lib.parseUint10 m r
  | [], r, acc, m, h => by
    simp only [Lib.parseUint10] at h
    injection h with h
    rw [h]; rfl
  | c :: l, r, acc, m, h => by
    rw [List.cons_append]
    simp only [Lib.parseUint10] at h ⊢
    split at h
    · rename_i h1
      rw [if_pos h1]
      split at h
      · cases h
      · rename_i h2
        rw [if_neg h2]
        split at h
        · cases h
        · rename_i h3
          rw [if_neg h3]
          exact parse10_app l r _ m h
    · cases h
theorem parse10_dec (u : Nat) (hu : u < 18446744073709551616) : Lib.parseUint10 0 (Lib.decDigits u) = .ok u := by
  induction u using Nat.strongRecOn with
  | ind u ih =>
    have hd : ∀ d : Nat, d < 10 → (UInt8.ofNat (48 + d)).toNat = 48 + d := fun d hd => by
      rw [UInt8.toNat_ofNat']; omega
    by_cases h : u < 10
    · rw [Lib.decDigits_one h]
      simp only [Lib.parseUint10]
      rw [hd u h, if_pos (by omega), if_neg (by omega), if_neg (by omega)]
      congr 1
      omega
    · rw [Lib.decDigits, dif_neg h]
      have h1 := ih (u / 10) (by omega) (by omega)
      rw [parse10_app _ _ _ _ h1]
      simp only [Lib.parseUint10]
      rw [hd (u % 10) (Nat.mod_lt _ (by decide)), if_pos (by omega), if_neg (by omega), if_neg (by omega)]
      congr 1
      omega
theorem decDigits_head (u : Nat) : ∃ c r, Lib.decDigits u = c :: r ∧ 48 ≤ c.toNat ∧ c.toNat ≤ 57 := by
  induction u using Nat.strongRecOn with
  | ind u ih =>
    by_cases h : u < 10
    · rw [Lib.decDigits_one h]
      exact ⟨_, _, rfl, by rw [UInt8.toNat_ofNat']; omega, by rw [UInt8.toNat_ofNat']; omega⟩
    · rw [Lib.decDigits, dif_neg h]
      obtain ⟨c, r, e, h1, h2⟩ := ih (u / 10) (by omega)
      rw [e]
      exact ⟨c, _, rfl, h1, h2⟩
theorem piV_itoa {n : Int} (h0 : -9223372036854775808 ≤ n) (h1 : n ≤ 9223372036854775807) : piV (Lib.itoa n) = n := by
  have h : Lib.parseIntB 64 (Lib.itoa n) = .ok n := by
    rw [Lib.parseIntB_64]
    unfold Lib.itoa
    split
    · rename_i hn
      rw [Lib.atoiAll_minus]
      have hm : Lib.parseMag (Lib.decDigits n.natAbs) = .ok n.natAbs := by
        obtain ⟨c, r, e, -, -⟩ := decDigits_head n.natAbs
        unfold Lib.parseMag
        rw [if_neg (by rw [e]; exact List.cons_ne_nil _ _)]
        exact parse10_dec _ (by omega)
      rw [hm]
      unfold Lib.signed
      simp only []
      rw [if_neg (by omega)]
      congr 1
      omega
    · rename_i hn
      obtain ⟨c, r, e, hc1, hc2⟩ := decDigits_head n.toNat
      have hm : Lib.parseMag (c :: r) = .ok n.toNat := by
        rw [← e]
        unfold Lib.parseMag
        rw [if_neg (by rw [e]; exact List.cons_ne_nil _ _)]
        exact parse10_dec _ (by omega)
      rw [e, Lib.atoiAll_plain c r (by omega) (by omega), hm]
      unfold Lib.signless
      simp only []
      rw [if_neg (by omega)]
      congr 1
      omega
  unfold piV
  rw [h]
theorem dgU_hxd {d : Nat} (h : d < 16) : dgU (hxd d) = some d := by
  have e : ∀ k : Fin 16, dgU (hxd k.val) = some k.val := by decide +kernel
  exact e ⟨d, h⟩
theorem puR_hz : ∀ (k n b : Nat), (n + 1) * 16 ^ k ≤ 18446744073709551616 → puR n (hz k b) = (n * 16 ^ k + b % 16 ^ k, .nif)
  | 0, n, b, h => by rw [hz, puR, Nat.pow_zero, Nat.mul_one, Nat.mod_one, Nat.add_zero]
  | k + 1, n, b, h => by
    have hd : b / 16 ^ k % 16 < 16 := Nat.mod_lt _ (by decide)
    have hp : 0 < 16 ^ k := Nat.pow_pos (by decide)
    rw [hz, puR, dgU_hxd hd]
    simp only []
    have h1 : (n + 1) * 16 * 16 ^ k ≤ 18446744073709551616 := by rw [Nat.mul_assoc, ← Nat.pow_succ']; exact h
    have h2 : (n + 1) * 16 ≤ 18446744073709551616 := Nat.le_trans (Nat.le_mul_of_pos_right _ hp) h1
    have hm : b % 16 ^ (k + 1) = b % 16 ^ k + 16 ^ k * (b / 16 ^ k % 16) := by rw [Nat.pow_succ, Nat.mod_mul]
    have hs : 16 ^ (k + 1) = 16 * 16 ^ k := Nat.pow_succ'
    generalize b / 16 ^ k % 16 = d at *
    rw [if_neg (by omega), if_neg (by omega), puR_hz k (n * 16 + d) b (Nat.le_trans (Nat.mul_le_mul_right _ (by omega)) h1), hm, hs]
    congr 1
    rw [Nat.add_mul, ← Nat.mul_assoc, Nat.mul_comm (16 ^ k) d]
    omega
theorem puX_hz {b : Nat} (hb : b < W) : puX (hz 16 b) = (b, .nif) := by
  have hW : W = 16 ^ 16 := rfl
  unfold puX
  rw [if_neg (fun e => by have := hz_len 16 b; rw [e] at this; cases this), puR_hz 16 0 b (by decide), Nat.zero_mul, Nat.zero_add, Nat.mod_eq_of_lt (by rw [← hW]; exact hb)]
theorem puR_lt : ∀ (l : List UInt8) (n : Nat), n < W → (puR n l).1 < W
  | [], n, h => h
  | c :: r, n, h => by
    have hW : W = 18446744073709551616 := rfl
    rw [puR]
    split
    · exact (by decide : 0 < W)
    · split
      · exact (by decide : 0 < W)
      · split
        · exact (by decide : 18446744073709551615 < W)
        · exact puR_lt r _ (by rw [hW]; omega)
theorem puX_lt (l : List UInt8) : (puX l).1 < W := by
  unfold puX
  split
  · exact (by decide : 0 < W)
  · exact puR_lt l 0 (by decide)
end Go.Proofs.YtmnojbkakgfinaaDoor
