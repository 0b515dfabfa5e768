/- strings.Join, strings.Count, slices.Index, strconv.FormatInt, strconv.ParseInt, as contracts. -/
import Derived.Test.YtmnojbkakgfinaaDoorK2
import Derived.Lib.SlicesS
import Derived.Lib.Join
import Derived.Lib.ParseIntB
open Go PG Go.Proofs Go.RowKit
set_option maxRecDepth 100000
set_option linter.unusedSimpArgs false
set_option linter.unusedVariables false
namespace Go.Proofs.YtmnojbkakgfinaaDoor

/-- A list of texts: where its cells lie. -/
theorem texts_at {w : World} {Pr : Nat → Nat → Prop} {L : List (List UInt8)} {v : Value} (hL : L ≠ []) (h : Rep (rd w Pr) (.lst L.length (L.map TX)) v) (hPr : ∀ g o, Pr g o → g < w.heap.size) :
    ∃ b o c, v = .slice (some ⟨b, o, none⟩) L.length c ∧ L.length ≤ c ∧ c ≤ maxLen ∧ b < w.heap.size ∧ ∀ (j : Nat) x, L[j]? = some x → w.cell? ⟨b, o + j, none⟩ = some (.string (B8 x)) := by
  have hl0 : 0 < L.length := List.length_pos_iff.2 hL
  rcases h.lst_inv with ⟨-, h1, -⟩ | ⟨ad, cap, us, rfl, hn, hc, hall, hm⟩
  · omega
  · have hcell : ∀ (j : Nat) x, L[j]? = some x → w.cell? (ad.add j) = some (.string (B8 x)) ∧ ad.block < w.heap.size := fun j x hx => by
      have hlt := (List.getElem?_eq_some_iff.1 hx).1
      have hul : us.length = L.length := by rw [hall.1, List.length_map]
      have h1 := hall.2.2 j (TX x) us[j] (by rw [List.getElem?_map, hx]; rfl) (List.getElem?_eq_getElem (by omega))
      have h2 := hm j us[j] (List.getElem?_eq_getElem (by omega))
      rw [h1.str_inv] at h2
      have h3 := rd_some.1 h2
      refine ⟨h3.2, ?_⟩
      have := hPr _ _ h3.1
      rwa [add_block] at this
    obtain ⟨b, o, sp⟩ := ad
    obtain ⟨x0, hx0⟩ : ∃ x0, L[0]? = some x0 := ⟨L[0], List.getElem?_eq_getElem hl0⟩
    have h0 := hcell 0 x0 hx0
    have hsp : sp = none := by
      cases sp with
      | none => rfl
      | some z =>
        have := h0.1
        simp only [World.cell?, Addr.add] at this
        split at this
        · simp at this
        · cases this
    subst hsp
    refine ⟨b, o, cap, rfl, hn, hc, h0.2, fun j x hx => ?_⟩
    have := (hcell j x hx).1
    rwa [addr_add] at this
theorem two_vals {p q : PV} {vs : Array Value} {g : Addr → Option Value} (hs : vs.size = 2) (h : ∀ (j : Nat) r x, [p, q][j]? = some r → vs[j]? = some x → Rep g r x) : ∃ a b, vs = #[a, b] ∧ Rep g p a ∧ Rep g q b := by
  refine ⟨vs[0], vs[1], ?_, h 0 _ _ rfl (Array.getElem?_eq_getElem (by omega)), h 1 _ _ rfl (Array.getElem?_eq_getElem (by omega))⟩
  refine Array.ext (by simp [hs]) fun i hi hj => ?_
  have : i = 0 ∨ i = 1 := by omega
  rcases this with rfl | rfl <;> simp
theorem map_data (L : List (List UInt8)) : (L.map B8).map (·.data.toList) = L := by
  rw [List.map_map]
  conv => rhs; rw [← List.map_id L]
  refine List.map_congr_left fun l _ => ?_
  exact B8_data l
theorem s_Join {L : List (List UInt8)} (hL : L ≠ []) (sep : List UInt8) (hb : L.length ≤ 100000) (hlen : (Lib.join L sep).length ≤ 100000000) : PC E 36 [.lst L.length (L.map TX), TX sep] (TX (Lib.join L sep)) := by
  intro w Pr vs hPr hG hsz hreps
  obtain ⟨a, b, rfl, ra, rb⟩ := two_vals hsz hreps
  obtain ⟨bk, o, c, rfl, hc1, hc2, hbk, hcell⟩ := texts_at hL ra hPr
  obtain rfl := rb.str_inv
  have hent : ∀ (vs : Array Value) (w : World), (callFunc 36 vs).run E.P w = .ok (.enter 36 vs) w := enters_of Tryd.func36 (by kernel_rfl) rfl
  rw [hent]
  refine ⟨rfl, ?_⟩
  have h := Tryd.strings_Join bk o c (L.map B8) (B8 sep) w (fun j x hx => by
    rw [List.getElem?_map, Option.map_eq_some_iff] at hx
    obtain ⟨y, hy, rfl⟩ := hx
    exact hcell j y hy) hbk (by rw [List.length_map]; omega) (by rw [List.length_map]; exact hc1) (by rw [map_data, B8_data]; omega)
  rw [List.length_map, map_data, B8_data] at h
  refine h.mono ?_
  rintro e w' ⟨rfl, hb'⟩
  exact ⟨_, rfl, .str _, hb'⟩
/-- Where a text stands in a list; -1: nowhere. -/
def posL (L : List (List UInt8)) (x : List UInt8) : Int := if L.idxOf x < L.length then (L.idxOf x : Nat) else -1
theorem idxFromS_pos (x : List UInt8) : ∀ (L : List (List UInt8)) (i : Nat), Lib.idxFromS (L.map B8) (B8 x) i = if L.idxOf x < L.length then ((i + L.idxOf x : Nat) : Int) else -1
  | [], i => rfl
  | y :: L, i => by
    rw [List.map_cons, Lib.idxFromS, idxFromS_pos x L (i + 1), List.idxOf_cons, List.length_cons]
    by_cases h : y = x
    · subst h
      simp
    · have h1 : ¬ B8 y = B8 x := fun e => h (B8_inj.1 e)
      have h2 : (y == x) = false := by simpa using h
      rw [if_neg h1, h2]
      simp only [cond_false]
      by_cases h3 : L.idxOf x < L.length
      · rw [if_pos h3, if_pos (by omega)]; congr 1; omega
      · rw [if_neg h3, if_neg (by omega)]
theorem s_IndexS {L : List (List UInt8)} (hL : L ≠ []) (x : List UInt8) (hb : L.length ≤ 100000) : PC E 28 [.lst L.length (L.map TX), TX x] (.int .i64 (posL L x)) := by
  intro w Pr vs hPr hG hsz hreps
  obtain ⟨a, b, rfl, ra, rb⟩ := two_vals hsz hreps
  obtain ⟨bk, o, c, rfl, hc1, hc2, hbk, hcell⟩ := texts_at hL ra hPr
  obtain rfl := rb.str_inv
  have hent : ∀ (vs : Array Value) (w : World), (callFunc 28 vs).run E.P w = .ok (.enter 28 vs) w := enters_of Tryd.func28 (by kernel_rfl) rfl
  rw [hent]
  refine ⟨rfl, ?_⟩
  refine (Tryd.slices_Index_string bk o L.length c (L.map B8) (B8 x) w (by rw [List.length_map]; exact Nat.le_refl _) (by omega) (fun j hj => by
    rw [List.length_map] at hj
    rw [hcell j L[j] (List.getElem?_eq_getElem hj)]
    congr 2
    rw [List.getD_eq_getElem?_getD, List.getElem?_map, List.getElem?_eq_getElem hj]
    rfl)).mono ?_
  rintro e w' ⟨rfl, rfl⟩
  refine ⟨_, rfl, ?_, Below.refl _ _⟩
  have e : Lib.idxOfS ((L.map B8).take L.length) (B8 x) = posL L x := by
    rw [List.take_of_length_le (by rw [List.length_map]; exact Nat.le_refl _)]
    unfold Lib.idxOfS posL
    rw [idxFromS_pos]
    simp
  rw [e]
  exact .int _ _
theorem s_Count1 (l : List UInt8) (c : UInt8) : PC E 14 [TX l, TX [c]] (.int .i64 (l.count c : Nat)) := by
  intro w Pr vs hPr hG hsz hreps
  obtain ⟨a, b, rfl, ra, rb⟩ := two_vals hsz hreps
  obtain rfl := ra.str_inv
  obtain rfl := rb.str_inv
  have hent : ∀ (vs : Array Value) (w : World), (callFunc 14 vs).run E.P w = .ok (.enter 14 vs) w := enters_of Tryd.func14 (by kernel_rfl) rfl
  rw [hent]
  refine ⟨rfl, ?_⟩
  refine (Tryd.strings_Count_one (B8 l) c w).mono ?_
  rintro e w' ⟨rfl, rfl⟩
  refine ⟨_, rfl, ?_, Below.refl _ _⟩
  rw [B8_data]
  exact .int _ _
theorem s_FormatInt (n : Int) (h0 : -9223372036854775808 ≤ n) (h1 : n ≤ 9223372036854775807) : PC E 34 [.int .i64 n, .int .i64 10] (TX (Lib.itoa n)) := by
  intro w Pr vs hPr hG hsz hreps
  obtain ⟨a, b, rfl, ra, rb⟩ := two_vals hsz hreps
  obtain rfl := ra.int_inv
  obtain rfl := rb.int_inv
  have hent : ∀ (vs : Array Value) (w : World), (callFunc 34 vs).run E.P w = .ok (.enter 34 vs) w := enters_of Tryd.func34 (by kernel_rfl) rfl
  rw [hent]
  refine ⟨rfl, ?_⟩
  have ht := tab_is (zs := Lib.pow10Tab) (name := "internal/strconv.uint64pow10") (g := 3) (by kernel_rfl) (hG 3 pow10T rfl)
  refine (Tryd.strconv_FormatInt_10 n h0 h1 w ht).mono ?_
  rintro e w' ⟨rfl, k, os, rfl⟩
  exact ⟨_, rfl, .str _, Lib.below_grow _ w (Nat.le_refl _) k os⟩
end Go.Proofs.YtmnojbkakgfinaaDoor
