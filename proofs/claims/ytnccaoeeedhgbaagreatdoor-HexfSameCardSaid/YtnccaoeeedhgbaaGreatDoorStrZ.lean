/- Contracts of the library out of the kit's shelf: Itoa, Atoi. -/
import Derived.Test.YtnccaoeeedhgbaaGreatDoorStr3
import Derived.Test.YtnccaoeeedhgbaaGreatDoorShl
import Derived.Lib.AppendIntMem
import Derived.Lib.AtoiErrMem
import Derived.Lib.SmallJoins
open Go PG Go.Proofs Go.RowKit
set_option maxRecDepth 100000
set_option linter.unusedSimpArgs false
set_option linter.unusedVariables false
namespace Go.Proofs.YtnccaoeeedhgbaaGreatDoor

/-- A contract out of a law of calls. -/
theorem PC.of_calls {f : FuncId} {args : List PV} {r : PV} {xs : Array Value} (hxs : ∀ (g : Addr → Option Value) (vs : Array Value), vs.size = args.length → (∀ (j : Nat) p x, args[j]? = some p → vs[j]? = some x → Rep g p x) → vs = xs)
    (hent : ∀ (vs : Array Value) (w : World), (callFunc f vs).run E.P w = .ok (.enter f vs) w)
    (hc : ∀ (w : World) (Pr : Nat → Nat → Prop), (∀ g cs, E.G g = some cs → GRep (rd w Pr) (.ref cs) (.pointer (some ⟨g, 0, none⟩)) (Whole w g cs.length)) → Calls E.P f xs w fun e w' => ∃ v, e = .returned v ∧ (∀ g, Rep g r v) ∧ Below w.heap.size w w') : PC E f args r := by
  intro w Pr vs h1 h2 h3 h4
  obtain rfl := hxs _ vs h3 h4
  rw [hent]
  exact ⟨rfl, (hc w Pr h2).mono fun e w' ⟨v, he, hr, hb⟩ => ⟨v, he, hr _, hb⟩⟩
/-- A table of numbers, out of what contracts know. -/
theorem tab_is {w : World} {Pr : Nat → Nat → Prop} {g : Nat} {k : IntKind} {zs : List Int} {name : String} (hg : Tryz.prog.globalNamed name = some g) (h : GRep (rd w Pr) (.ref (zs.map (PV.int k))) (.pointer (some ⟨g, 0, none⟩)) (Whole w g (zs.map (PV.int k)).length)) : Lib.TabIs Tryz.prog w name k zs := by
  obtain ⟨hr, _, vs, t, fr, hb, hl⟩ := h
  unfold Lib.TabIs World.var?
  rw [hg]
  simp only [Option.bind_some, hb, Option.some.injEq]
  obtain ⟨a, xs, ha, hall, hm⟩ := hr.ref_inv
  cases ha
  refine Array.ext' ?_
  rw [List.toList_toArray]
  refine List.ext_getElem? fun j => ?_
  by_cases hj : j < zs.length
  · obtain ⟨x, hx, hxr, _⟩ := hall.at_ (j := j) (c := .int k zs[j]) (by simp [hj])
    have h1 := (rd_some.1 (hm j x hx)).2
    rw [addr_add, Nat.zero_add] at h1
    simp only [World.cell?, hb] at h1
    rw [hxr.int_inv] at h1
    simp only [List.getElem?_map, List.getElem?_eq_getElem hj, Option.map_some]
    simpa using h1
  · rw [List.getElem?_eq_none (by rw [Array.length_toList, hl, List.length_map]; omega), List.getElem?_eq_none (by rw [List.length_map]; omega)]
theorem one_int {g : Addr → Option Value} {k : IntKind} {n : Int} {vs : Array Value} (hs : vs.size = 1) (h : ∀ (j : Nat) p x, [PV.int k n][j]? = some p → vs[j]? = some x → Rep g p x) : vs = #[.int k n] := by
  have h0 := (h 0 _ _ rfl (Array.getElem?_eq_getElem (by omega)) : Rep g (.int k n) vs[0]).int_inv
  refine Array.ext (by simp [hs]) fun i hi hj => ?_
  have : i = 0 := by omega
  subst this
  simp [h0]
theorem one_str {g : Addr → Option Value} {s : ByteArray} {vs : Array Value} (hs : vs.size = 1) (h : ∀ (j : Nat) p x, [PV.str s][j]? = some p → vs[j]? = some x → Rep g p x) : vs = #[.string s] := by
  have h0 := (h 0 _ _ rfl (Array.getElem?_eq_getElem (by omega)) : Rep g (.str s) vs[0]).str_inv
  refine Array.ext (by simp [hs]) fun i hi hj => ?_
  have : i = 0 := by omega
  subst this
  simp [h0]
/-- The text of a whole number. -/
theorem s_Itoa (n : Int) (h0 : -9223372036854775808 ≤ n) (h1 : n ≤ 9223372036854775807) : PC E 52 [.int .i64 n] (TX (Lib.itoa n)) := by
  refine PC.of_calls (fun g vs hs h => one_int hs h) (enters_of Tryz.func52 (by kernel_rfl) rfl) fun w Pr hG => ?_
  have ht := tab_is (zs := Lib.pow10Tab) (name := "internal/strconv.uint64pow10") (g := 2) (by kernel_rfl) (hG 2 pow10T rfl)
  refine (Tryz.strconv_Itoa n h0 h1 w ht).mono ?_
  rintro e w' ⟨rfl, k, os, rfl⟩
  exact ⟨_, rfl, fun g => .str _, Lib.below_grow _ w (Nat.le_refl _) k os⟩
/-- A decimal digit. -/
def dgt (c : UInt8) : Bool := decide (48 ≤ c.toNat ∧ c.toNat ≤ 57)
def DIG : List UInt8 := [48, 49, 50, 51, 52, 53, 54, 55, 56, 57]
theorem inS_dig (c : UInt8) : inS DIG c = dgt c := by
  unfold inS dgt DIG
  simp only [List.any_cons, List.any_nil, Bool.or_false]
  rw [Bool.eq_iff_iff]
  simp
  have e : ∀ k : Nat, k < 256 → (UInt8.ofNat k).toNat = k := fun k hk => by simp; omega
  constructor
  · intro h; omega
  · intro h; omega
/-- The number of decimal digits. -/
def dn (l : List UInt8) : Nat := l.foldl (fun n c => n * 10 + (c.toNat - 48)) 0
theorem digitVal_dgt {c : UInt8} (h : dgt c = true) : Lib.digitVal c = some (c.toNat - 48) := if_pos (of_decide_eq_true h)
theorem decFrom_dn : ∀ (l : List UInt8) (acc : Nat), l.all dgt = true → Lib.decFrom acc l = some (l.foldl (fun n c => n * 10 + (c.toNat - 48)) acc)
  | [], acc, _ => rfl
  | c :: l, acc, h => by
    rw [List.all_cons, Bool.and_eq_true] at h
    unfold Lib.decFrom
    rw [digitVal_dgt h.1]
    exact decFrom_dn l _ h.2
theorem atoi_dn {l : List UInt8} (h0 : l ≠ []) (h : l.all dgt = true) : Lib.atoi l = some ((dn l : Nat) : Int) := by
  cases l with
  | nil => exact absurd rfl h0
  | cons c l =>
    have hc := h
    rw [List.all_cons, Bool.and_eq_true] at hc
    have hd := of_decide_eq_true hc.1
    unfold Lib.atoi
    have e1 : (c == 45) = false := by
      rw [beq_eq_false_iff_ne]; rintro rfl; simp at hd
    have e2 : (c == 43) = false := by
      rw [beq_eq_false_iff_ne]; rintro rfl; simp at hd
    simp only [e1, e2, Bool.false_eq_true, if_false]
    unfold Lib.decNat
    rw [if_neg (by simp), decFrom_dn _ 0 h]
    rfl
theorem dn_snoc (l : List UInt8) (c : UInt8) : dn (l ++ [c]) = dn l * 10 + (c.toNat - 48) := by unfold dn; rw [List.foldl_append]; rfl
theorem dn_lt : ∀ (l : List UInt8), l.all dgt = true → dn l < 10 ^ l.length := by
  intro l
  have gen : ∀ (l : List UInt8) (n k : Nat), l.all dgt = true → n < 10 ^ k → l.foldl (fun n c => n * 10 + (c.toNat - 48)) n < 10 ^ (k + l.length) := by
    intro l
    induction l with
    | nil => intro n k _ h; exact h
    | cons c l ih =>
      intro n k hl h
      rw [List.all_cons, Bool.and_eq_true] at hl
      have h1 := of_decide_eq_true hl.1
      rw [List.foldl_cons, List.length_cons, show k + (l.length + 1) = (k + 1) + l.length by omega]
      refine ih _ _ hl.2 ?_
      rw [Nat.pow_succ]
      have : n + 1 ≤ 10 ^ k := h
      omega
  intro h
  have := gen l 0 0 h (by decide)
  rwa [Nat.zero_add] at this
/-- Atoi of a few digits. -/
theorem s_Atoi {l : List UInt8} (h0 : l ≠ []) (h : l.all dgt = true) (hl : l.length ≤ 18) : PC E 84 [TX l] (.tuple [.int .i64 (dn l : Nat), .any]) := by
  refine PC.of_calls (fun g vs hs h => one_str hs h) (enters_of Tryz.func84 (by kernel_rfl) rfl) fun w Pr hG => ?_
  refine (Tryz.strconv_Atoi (B8 l) ((dn l : Nat) : Int) (by rw [B8_size]; exact hl) (by rw [B8_data]; exact atoi_dn h0 h) w).mono ?_
  rintro e w' ⟨rfl, t, rfl⟩
  refine ⟨_, rfl, fun g => Rep.tuple _ _ rfl fun j p x hp hx => ?_, Lib.bytesWorld_below w _ t⟩
  match j with
  | 0 => cases hp; cases hx; exact .int _ _
  | 1 => cases hp; cases hx; exact .any _
  | j + 2 => simp at hp
end Go.Proofs.YtnccaoeeedhgbaaGreatDoor
