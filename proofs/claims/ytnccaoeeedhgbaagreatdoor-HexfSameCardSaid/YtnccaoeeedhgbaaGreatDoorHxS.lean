/- Sixteen hex digits, and what moved digits are worth: plain laws. No program stands here. -/
import Derived.Test.YtnccaoeeedhgbaaGreatDoorHx9
import Derived.Test.YtnccaoeeedhgbaaGreatDoorStr4
open Go PG Go.Proofs
set_option maxRecDepth 100000
set_option linter.unusedSimpArgs false
set_option linter.unusedVariables false
namespace Go.Proofs.YtnccaoeeedhgbaaGreatDoor

def HXT : List UInt8 := [48, 49, 50, 51, 52, 53, 54, 55, 56, 57, 97, 98, 99, 100, 101, 102]
theorem hxt_cut {k : Nat} (h : k < 16) : HXT.drop k = hxd k :: HXT.drop (k + 1) := by
  have e : ∀ k : Fin 16, HXT.drop k.val = hxd k.val :: HXT.drop (k.val + 1) := by decide +kernel
  exact e ⟨k, h⟩
/-- The first i of the sixteen digits of b. -/
def dig16 (b : Nat) : Nat → List UInt8
  | 0 => []
  | i + 1 => dig16 b i ++ [hxd (b / 16 ^ (15 - i) % 16)]
theorem dig16_len (b : Nat) : ∀ i, (dig16 b i).length = i
  | 0 => rfl
  | i + 1 => by rw [dig16, List.length_append, dig16_len b i]; rfl
theorem dig16_all (b : Nat) : ∀ i, (dig16 b i).all hx = true
  | 0 => rfl
  | i + 1 => by rw [dig16, List.all_append, dig16_all b i, List.all_cons, hx_hxd (Nat.mod_lt _ (by decide))]; rfl
theorem hexP_plain {l : List UInt8} (dir : Int) (h1 : isW l = false) (h2 : hexOk l = true) (h3 : hexN l = false) : hexP l dir = (((toS (hexD l) false dir).1, (toS (hexD l) false dir).2), 0) := by
  unfold hexP
  rw [h1, if_neg (by decide), if_pos h2, h3]
  rfl
theorem hn_front (x : List UInt8) : ∀ z, hn (List.replicate z 48 ++ x) = hn x
  | 0 => rfl
  | z + 1 => by
    rw [List.replicate_succ, List.cons_append]
    show (48 :: (List.replicate z 48 ++ x)).foldl (fun n c => n * 16 + hv c) 0 = _
    rw [List.foldl_cons, show 0 * 16 + hv 48 = 0 from rfl]
    exact hn_front x z
/-- Parsed alike: what reads as the same digits, moved. -/
theorem hexP_move {A D ia A' D' ia' : List UInt8} (pt pt' : Bool) (hA : A.all hx = true) (hD : D.all hx = true) (hA0 : A ≠ []) (hpt : pt = true → D ≠ []) (hpf : pt = false → D = []) (hi : expOk ia = true) (hlen : A.length + D.length + ia.length ≤ 300)
    (hA' : A'.all hx = true) (hD' : D'.all hx = true) (hA0' : A' ≠ []) (hpt' : pt' = true → D' ≠ []) (hpf' : pt' = false → D' = []) (hi' : expOk ia' = true) (hlen' : A'.length + D'.length + ia'.length ≤ 300)
    (z : Nat) (hn' : hn (A' ++ D') = hn (A ++ D) * 2 ^ (4 * z)) (hz : z ≤ 100) (he : expV ia - 4 * (D.length : Nat) = expV ia' - 4 * (D'.length : Nat) + (4 * z : Nat)) (dir : Int) :
    hexP ([48, 120] ++ ((A ++ (if pt = true then 46 :: D else [])) ++ 112 :: ia)) dir = hexP ([48, 120] ++ ((A' ++ (if pt' = true then 46 :: D' else [])) ++ 112 :: ia')) dir ∧
    (hexP ([48, 120] ++ ((A ++ (if pt = true then 46 :: D else [])) ++ 112 :: ia)) dir).2 = 0 := by
  obtain ⟨p1, p2, p3, p4⟩ := hex_read (sg := false) pt hA hD hA0 hpt hpf hi (by omega) _ rfl
  obtain ⟨q1, q2, q3, q4⟩ := hex_read (sg := false) pt' hA' hD' hA0' hpt' hpf' hi' (by omega) _ rfl
  rw [if_neg (by decide), List.nil_append] at p1 p2 p3 p4 q1 q2 q3 q4
  have hl : ∀ {A ia : List UInt8} (X : List UInt8), A ≠ [] → expOk ia = true → isW ([48, 120] ++ ((A ++ X) ++ 112 :: ia)) = false := fun {A ia} X h1 h2 => isW_len (by
    have h3 := List.length_pos_iff.2 h1
    have h4 : 1 ≤ ia.length := by
      have := expS_le ia
      unfold expOk at h2
      rw [Bool.and_eq_true, decide_eq_true_eq] at h2
      have := List.length_pos_iff.2 h2.1.1
      omega
    simp only [List.length_append, List.length_cons, List.length_nil]
    omega)
  have e1 := expV_le hi
  have e2 := expV_le hi'
  have hD1 : hexD ([48, 120] ++ ((A ++ (if pt = true then 46 :: D else [])) ++ 112 :: ia)) = hexD ([48, 120] ++ ((A' ++ (if pt' = true then 46 :: D' else [])) ++ 112 :: ia')) := by
    unfold hexD
    rw [p2, p3, p4, q2, q3, q4, hn', mkD_move _ _ _ (by omega) (by omega), he]
  rw [hexP_plain dir (hl _ hA0 hi) p1 p2, hexP_plain dir (hl _ hA0' hi') q1 q2, hD1]
  exact ⟨rfl, rfl⟩
end Go.Proofs.YtnccaoeeedhgbaaGreatDoor
