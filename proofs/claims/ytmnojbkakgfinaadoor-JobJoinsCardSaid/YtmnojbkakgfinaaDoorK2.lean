/- Several parts in one text. -/
import Derived.Test.YtmnojbkakgfinaaDoorK1
import Derived.Test.YtmnojbkakgfinaaDoorShl
import Derived.Lib.AppendIntMem
import Derived.Lib.AtoiErrMem
import Derived.Lib.SmallJoins
import Derived.Test.YtmnojbkakgfinaaDoorPgN
import Derived.BigCall
import Derived.Lib.OthersKept
import Derived.Maps.AppendAt
/- Contracts of the library out of the kit's shelf: Itoa, Atoi. -/
section
open Go PG Go.Proofs Go.RowKit
set_option maxRecDepth 100000
set_option linter.unusedSimpArgs false
set_option linter.unusedVariables false
namespace Go.Proofs.YtmnojbkakgfinaaDoor

/-- A contract out of a law of calls. -/
theorem PC.of_calls {f : FuncId} {args : List PV} {r : PV} {xs : Array Value} (hxs : ∀ (g : Addr → Option Value) (vs : Array Value), vs.size = args.length → (∀ (j : Nat) p x, args[j]? = some p → vs[j]? = some x → Rep g p x) → vs = xs)
    (hent : ∀ (vs : Array Value) (w : World), (callFunc f vs).run E.P w = .ok (.enter f vs) w)
    (hc : ∀ (w : World) (Pr : Nat → Nat → Prop), (∀ g cs, E.G g = some cs → GRep (rd w Pr) (.ref cs) (.pointer (some ⟨g, 0, none⟩)) (Whole w g cs.length)) → Calls E.P f xs w fun e w' => ∃ v, e = .returned v ∧ (∀ g, Rep g r v) ∧ Below w.heap.size w w') : PC E f args r := by
  intro w Pr vs h1 h2 h3 h4
  obtain rfl := hxs _ vs h3 h4
  rw [hent]
  exact ⟨rfl, (hc w Pr h2).mono fun e w' ⟨v, he, hr, hb⟩ => ⟨v, he, hr _, hb⟩⟩
/-- A table of numbers, out of what contracts know. -/
theorem tab_is {w : World} {Pr : Nat → Nat → Prop} {g : Nat} {k : IntKind} {zs : List Int} {name : String} (hg : Tryd.prog.globalNamed name = some g) (h : GRep (rd w Pr) (.ref (zs.map (PV.int k))) (.pointer (some ⟨g, 0, none⟩)) (Whole w g (zs.map (PV.int k)).length)) : Lib.TabIs Tryd.prog w name k zs := by
  obtain ⟨hr, _, vs, t, fr, hb, hl⟩ := h
  unfold Lib.TabIs World.var?
  rw [hg]
  simp only [Option.bind_some, hb, Option.some.injEq]
  obtain ⟨a, xs, ha, hall, hm⟩ := hr.ref_inv
  cases ha
  refine Array.ext' ?_
  rw [List.toList_toArray]
  refine List.ext_getElem? fun j => ?_
  by_cases hj : j < zs.length
  · obtain ⟨x, hx, hxr, _⟩ := hall.at_ (j := j) (c := .int k zs[j]) (by simp [hj])
    have h1 := (rd_some.1 (hm j x hx)).2
    rw [addr_add, Nat.zero_add] at h1
    simp only [World.cell?, hb] at h1
    rw [hxr.int_inv] at h1
    simp only [List.getElem?_map, List.getElem?_eq_getElem hj, Option.map_some]
    simpa using h1
  · rw [List.getElem?_eq_none (by rw [Array.length_toList, hl, List.length_map]; omega), List.getElem?_eq_none (by rw [List.length_map]; omega)]
theorem one_int {g : Addr → Option Value} {k : IntKind} {n : Int} {vs : Array Value} (hs : vs.size = 1) (h : ∀ (j : Nat) p x, [PV.int k n][j]? = some p → vs[j]? = some x → Rep g p x) : vs = #[.int k n] := by
  have h0 := (h 0 _ _ rfl (Array.getElem?_eq_getElem (by omega)) : Rep g (.int k n) vs[0]).int_inv
  refine Array.ext (by simp [hs]) fun i hi hj => ?_
  have : i = 0 := by omega
  subst this
  simp [h0]
theorem one_str {g : Addr → Option Value} {s : ByteArray} {vs : Array Value} (hs : vs.size = 1) (h : ∀ (j : Nat) p x, [PV.str s][j]? = some p → vs[j]? = some x → Rep g p x) : vs = #[.string s] := by
  have h0 := (h 0 _ _ rfl (Array.getElem?_eq_getElem (by omega)) : Rep g (.str s) vs[0]).str_inv
  refine Array.ext (by simp [hs]) fun i hi hj => ?_
  have : i = 0 := by omega
  subst this
  simp [h0]
/-- The text of a whole number. -/
theorem s_Itoa (n : Int) (h0 : -9223372036854775808 ≤ n) (h1 : n ≤ 9223372036854775807) : PC E 74 [.int .i64 n] (TX (Lib.itoa n)) := by
  refine PC.of_calls (fun g vs hs h => one_int hs h) (enters_of Tryd.func74 (by kernel_rfl) rfl) fun w Pr hG => ?_
  have ht := tab_is (zs := Lib.pow10Tab) (name := "internal/strconv.uint64pow10") (g := 3) (by kernel_rfl) (hG 3 pow10T rfl)
  refine (Tryd.strconv_Itoa n h0 h1 w ht).mono ?_
  rintro e w' ⟨rfl, k, os, rfl⟩
  exact ⟨_, rfl, fun g => .str _, Lib.below_grow _ w (Nat.le_refl _) k os⟩
/-- A decimal digit. -/
def dgt (c : UInt8) : Bool := decide (48 ≤ c.toNat ∧ c.toNat ≤ 57)
def DIG : List UInt8 := [48, 49, 50, 51, 52, 53, 54, 55, 56, 57]
theorem inS_dig (c : UInt8) : inS DIG c = dgt c := by
  unfold inS dgt DIG
  simp only [List.any_cons, List.any_nil, Bool.or_false]
  rw [Bool.eq_iff_iff]
  simp
  have e : ∀ k : Nat, k < 256 → (UInt8.ofNat k).toNat = k := fun k hk => by simp; omega
  constructor
  · intro h; omega
  · intro h; omega
/-- The number of decimal digits. -/
def dn (l : List UInt8) : Nat := l.foldl (fun n c => n * 10 + (c.toNat - 48)) 0
theorem dn_snoc (l : List UInt8) (c : UInt8) : dn (l ++ [c]) = dn l * 10 + (c.toNat - 48) := by unfold dn; rw [List.foldl_append]; rfl
theorem dn_lt : ∀ (l : List UInt8), l.all dgt = true → dn l < 10 ^ l.length := by
  intro l
  have gen : ∀ (l : List UInt8) (n k : Nat), l.all dgt = true → n < 10 ^ k → l.foldl (fun n c => n * 10 + (c.toNat - 48)) n < 10 ^ (k + l.length) := by
    intro l
    induction l with
    | nil => intro n k _ h; exact h
    | cons c l ih =>
      intro n k hl h
      rw [List.all_cons, Bool.and_eq_true] at hl
      have h1 := of_decide_eq_true hl.1
      rw [List.foldl_cons, List.length_cons, show k + (l.length + 1) = (k + 1) + l.length by omega]
      refine ih _ _ hl.2 ?_
      rw [Nat.pow_succ]
      have : n + 1 ≤ 10 ^ k := h
      omega
  intro h
  have := gen l 0 0 h (by decide)
  rwa [Nat.zero_add] at this
end Go.Proofs.YtmnojbkakgfinaaDoor
end

/- Decimal digits of numbers, and texts that are written digit by digit: plain laws. No program stands here. -/
section
open Go PG Go.Proofs
set_option maxRecDepth 100000
set_option linter.unusedSimpArgs false
set_option linter.unusedVariables false
namespace Go.Proofs.YtmnojbkakgfinaaDoor

theorem dec_len : ∀ (k x : Nat), x < 10 ^ (k + 1) → (Lib.decDigits x).length ≤ k + 1
  | 0, x, h => by rw [Lib.decDigits, dif_pos (by omega)]; simp
  | k + 1, x, h => by
    rw [Lib.decDigits]
    by_cases h1 : x < 10
    · rw [dif_pos h1]; simp
    · rw [dif_neg h1, List.length_append, List.length_singleton]
      have := dec_len k (x / 10) (by rw [Nat.div_lt_iff_lt_mul (by decide), ← Nat.pow_succ]; exact h)
      omega
theorem itoa_len {n : Int} (h0 : -10000 < n) (h1 : n < 10000) : (Lib.itoa n).length ≤ 5 := by
  unfold Lib.itoa
  split
  · have := dec_len 3 n.natAbs (by omega)
    rw [List.length_cons]; omega
  · have := dec_len 3 n.toNat (by omega)
    omega
theorem dgt_dig {n : Nat} (h : n < 10) : dgt (UInt8.ofNat (48 + n)) = true ∧ (UInt8.ofNat (48 + n)).toNat = 48 + n ∧ UInt8.ofNat (48 + n) ≠ 45 ∧ UInt8.ofNat (48 + n) ≠ 112 := by
  have e : ∀ k : Fin 10, dgt (UInt8.ofNat (48 + k.val)) = true ∧ (UInt8.ofNat (48 + k.val)).toNat = 48 + k.val ∧ UInt8.ofNat (48 + k.val) ≠ 45 ∧ UInt8.ofNat (48 + k.val) ≠ 112 := by decide +kernel
  exact e ⟨n, h⟩
theorem dec_dn (u : Nat) : dn (Lib.decDigits u) = u ∧ (Lib.decDigits u).all dgt = true ∧ Lib.decDigits u ≠ [] ∧ 112 ∉ Lib.decDigits u ∧ 45 ∉ Lib.decDigits u := by
  induction u using Nat.strongRecOn with
  | _ u ih =>
    rw [Lib.decDigits]
    by_cases h : u < 10
    · obtain ⟨h1, h2, h3, h4⟩ := dgt_dig h
      rw [dif_pos h]
      refine ⟨?_, by rw [List.all_cons, h1]; rfl, by simp, by simpa using h4.symm, by simpa using h3.symm⟩
      show 0 * 10 + ((UInt8.ofNat (48 + u)).toNat - 48) = u
      rw [h2]; omega
    · obtain ⟨g1, g2, g3, g4, g5⟩ := ih (u / 10) (by omega)
      obtain ⟨h1, h2, h3, h4⟩ := dgt_dig (n := u % 10) (by omega)
      rw [dif_neg h, dn_snoc, g1, h2, List.all_append, g2, List.all_cons, h1]
      refine ⟨by omega, rfl, by simp, ?_, ?_⟩
      · rw [List.mem_append, not_or]
        exact ⟨g4, by simpa using h4.symm⟩
      · rw [List.mem_append, not_or]
        exact ⟨g5, by simpa using h3.symm⟩
theorem hasC_mem {c : UInt8} {l : List UInt8} : hasC c l = true ↔ c ∈ l := by
  induction l with
  | nil => simp [hasC_nil]
  | cons d l ih =>
    rw [hasC_cons, List.mem_cons]
    by_cases h : d = c
    · simp [h]
    · rw [if_neg h, ih]
      simp [Ne.symm h]
theorem hasC_not {c : UInt8} {l : List UInt8} (h : c ∉ l) : hasC c l = false := by
  cases hh : hasC c l with
  | false => rfl
  | true => exact absurd (hasC_mem.1 hh) h
theorem dec_lt {u : Nat} (h : u < 10) : Lib.decDigits u = [UInt8.ofNat (48 + u)] := by rw [Lib.decDigits, dif_pos h]
theorem dec_ge {u : Nat} (h : ¬ u < 10) : Lib.decDigits u = Lib.decDigits (u / 10) ++ [UInt8.ofNat (48 + u % 10)] := by rw [Lib.decDigits, dif_neg h]
theorem dig_cut {k : Nat} (h : k < 10) : ([48, 49, 50, 51, 52, 53, 54, 55, 56, 57] : List UInt8).drop k = UInt8.ofNat (48 + k) :: ([48, 49, 50, 51, 52, 53, 54, 55, 56, 57] : List UInt8).drop (k + 1) := by
  have e : ∀ k : Fin 10, ([48, 49, 50, 51, 52, 53, 54, 55, 56, 57] : List UInt8).drop k.val = UInt8.ofNat (48 + k.val) :: ([48, 49, 50, 51, 52, 53, 54, 55, 56, 57] : List UInt8).drop (k.val + 1) := by decide +kernel
  exact e ⟨k, h⟩
/-- What is written so far: the digits behind n. -/
def behind (N n : Nat) (out : List UInt8) : Prop := (out = [] ∧ n = N) ∨ (out ≠ [] ∧ (if n = 0 then out else Lib.decDigits n ++ out) = Lib.decDigits N)
theorem behind_next {N n : Nat} {out : List UInt8} (h : behind N n out) (hc : 0 < n ∨ out = []) : behind N (n / 10) (UInt8.ofNat (48 + n % 10) :: out) := by
  refine .inr ⟨by simp, ?_⟩
  have h1 : Lib.decDigits n ++ out = Lib.decDigits N := by
    rcases h with ⟨rfl, rfl⟩ | ⟨h1, h2⟩
    · simp
    · rcases hc with h3 | h3
      · rwa [if_neg (by omega)] at h2
      · exact absurd h3 h1
  rw [← h1]
  by_cases hn : n < 10
  · rw [if_pos (by omega), dec_lt hn, Nat.mod_eq_of_lt hn]
    rfl
  · rw [if_neg (by omega), dec_ge hn, List.append_assoc]
    rfl
theorem behind_len {N n : Nat} {out : List UInt8} (h : behind N n out) : out.length ≤ (Lib.decDigits N).length := by
  rcases h with ⟨rfl, rfl⟩ | ⟨h1, h2⟩
  · simp
  · rw [← h2]
    split
    · exact Nat.le_refl _
    · rw [List.length_append]; omega
end Go.Proofs.YtmnojbkakgfinaaDoor
end

/- Contracts as laws of calls, for the loops that are walked with the kit's own tactics: values that are held, world after world. -/
section
open Go PG Go.Proofs Go.RowKit
set_option maxRecDepth 100000
set_option linter.unusedSimpArgs false
set_option linter.unusedVariables false
namespace Go.Proofs.YtmnojbkakgfinaaDoor

/-- Values that read so, out of what was protected when the call began and what was made since. -/
def AtL (w : World) (Pr : Nat → Nat → Prop) (wr : World) (ps : List (PV × Value)) : Prop :=
  ∃ Pr' : Nat → Nat → Prop, (∀ g o, Pr' g o → g < wr.heap.size) ∧ (∀ g cs, E.G g = some cs → GRep (rd wr Pr') (.ref cs) (.pointer (some ⟨g, 0, none⟩)) (Whole wr g cs.length)) ∧
    (∀ g o, Pr' g o → Pr g o ∨ w.heap.size ≤ g) ∧ ∀ q ∈ ps, Rep (rd wr Pr') q.1 q.2
theorem AtL.start {w : World} {Pr : Nat → Nat → Prop} (h1 : ∀ g o, Pr g o → g < w.heap.size) (h2 : ∀ g cs, E.G g = some cs → GRep (rd w Pr) (.ref cs) (.pointer (some ⟨g, 0, none⟩)) (Whole w g cs.length)) {ps : List (PV × Value)} (h : ∀ q ∈ ps, Rep (rd w Pr) q.1 q.2) : AtL w Pr w ps :=
  ⟨Pr, h1, h2, fun _ _ h => .inl h, h⟩
theorem AtL.sub {w : World} {Pr : Nat → Nat → Prop} {wr : World} {ps qs : List (PV × Value)} (h : AtL w Pr wr ps) (hs : ∀ q ∈ qs, q ∈ ps ∨ ∀ g, Rep g q.1 q.2) : AtL w Pr wr qs := by
  obtain ⟨Pr', h1, h2, h3, h4⟩ := h
  refine ⟨Pr', h1, h2, h3, fun q hq => ?_⟩
  rcases hs q hq with h | h
  · exact h4 q h
  · exact h _
/-- A world in which the old blocks of cells stand as they stood. -/
theorem AtL.next {w : World} {Pr : Nat → Nat → Prop} {wr W : World} {ps : List (PV × Value)} (h : AtL w Pr wr ps) (hsz : wr.heap.size ≤ W.heap.size) (hk : ∀ (k : Nat) (cs : Array Value) (t : TypeId) (fr : Nat × Nat), wr.heap[k]? = some (Obj.cells cs t fr) → W.heap[k]? = some (Obj.cells cs t fr)) : AtL w Pr W ps := by
  obtain ⟨Pr', h1, h2, h3, h4⟩ := h
  have hle : ∀ a x, rd wr Pr' a = some x → rd W Pr' a = some x := rd_le fun a x hp hc => ⟨hp, by
    simp only [World.cell?] at hc ⊢
    split at hc
    · rename_i cs t fr hb
      rw [hk _ _ _ _ hb]
      exact hc
    · cases hc⟩
  refine ⟨Pr', fun g o hp => Nat.lt_of_lt_of_le (h1 g o hp) hsz, fun g cs hg => ?_, h3, fun q hq => (h4 q hq).mono hle⟩
  obtain ⟨hr, hn, vs, t, fr, hb, hl⟩ := h2 g cs hg
  exact ⟨hr.mono hle, hn, vs, t, fr, hk _ _ _ _ hb, hl⟩
theorem AtL.below {w : World} {Pr : Nat → Nat → Prop} {wr W : World} {ps : List (PV × Value)} (h : AtL w Pr wr ps) (hb : Below wr.heap.size wr W) : AtL w Pr W ps :=
  h.next hb.size fun k cs t fr hk => by rw [hb.block k (Array.getElem?_eq_some_iff.1 hk).1]; exact hk
theorem AtL.iter {w : World} {Pr : Nat → Nat → Prop} {wr : World} {ps : List (PV × Value)} (h : AtL w Pr wr ps) {k pos : Nat} {s : ByteArray} (hk : wr.heap[k]? = some (.stringIter s pos)) (pos' : Nat) : AtL w Pr (wr.iterAt k s pos') ps :=
  h.next (by rw [Lib.iterAt_size]; exact Nat.le_refl _) fun j cs t fr hj => by
    by_cases e : j = k
    · subst e; rw [hk] at hj; cases hj
    · rw [Lib.iterAt_other wr k j s pos' e]; exact hj
/-- A contract at held values. -/
theorem AtL.calls {w : World} {Pr : Nat → Nat → Prop} {wr : World} {ps : List (PV × Value)} (h : AtL w Pr wr ps) (hb : w.heap.size ≤ wr.heap.size) {f : FuncId} {args : List PV} {r : PV} (hpc : PC E f args r)
    (hent : ∀ (vs : Array Value) (w : World), (callFunc f vs).run E.P w = .ok (.enter f vs) w) {vs : Array Value} (hsz : vs.size = args.length) (hargs : ∀ (j : Nat) p v, args[j]? = some p → vs[j]? = some v → (p, v) ∈ ps ∨ ∀ g, Rep g p v) :
    Calls E.P f vs wr fun e W => ∃ v, e = .returned v ∧ Below wr.heap.size wr W ∧ AtL w Pr W ((r, v) :: ps) := by
  have h0 := h
  obtain ⟨Pr', h1, h2, h3, h4⟩ := h
  have := hpc wr Pr' vs h1 h2 hsz fun j p v hp hv => by
    rcases hargs j p v hp hv with hm | hm
    · exact h4 _ hm
    · exact hm _
  rw [hent] at this
  refine this.2.mono ?_
  rintro e W ⟨v, rfl, hrep, hbel⟩
  obtain ⟨P2, g1, g2, g3, g4⟩ := h0.below hbel
  have hlt : ∀ a x, rd W (fun g o => Pr' g o ∨ wr.heap.size ≤ g) a = some x → rd W (fun g o => (P2 g o ∨ Pr' g o ∨ wr.heap.size ≤ g) ∧ g < W.heap.size) a = some x := rd_le fun a x hp hc => ⟨⟨.inr hp, World.block_lt_of_cell? _ _ hc⟩, hc⟩
  have hle : ∀ a x, rd W P2 a = some x → rd W (fun g o => (P2 g o ∨ Pr' g o ∨ wr.heap.size ≤ g) ∧ g < W.heap.size) a = some x := rd_le fun a x hp hc => ⟨⟨.inl hp, World.block_lt_of_cell? _ _ hc⟩, hc⟩
  refine ⟨v, rfl, hbel, fun g o => (P2 g o ∨ Pr' g o ∨ wr.heap.size ≤ g) ∧ g < W.heap.size, fun g o hp => hp.2, fun g cs hg => (g2 g cs hg).mono hle, fun g o hp => ?_, fun q hq => ?_⟩
  · rcases hp.1 with hp | hp | hp
    · exact g3 g o hp
    · exact h3 g o hp
    · exact .inr (by omega)
  · rcases List.mem_cons.1 hq with rfl | hq
    · exact hrep.mono hlt
    · exact (g4 q hq).mono hle
theorem AtL.int {w : World} {Pr : Nat → Nat → Prop} {wr : World} {k : IntKind} {n : Int} {v : Value} {ps : List (PV × Value)} (h : AtL w Pr wr ((.int k n, v) :: ps)) : v = .int k n := by
  obtain ⟨Pr', _, _, _, h4⟩ := h
  exact (h4 _ List.mem_cons_self).int_inv
theorem AtL.bool {w : World} {Pr : Nat → Nat → Prop} {wr : World} {b : Bool} {v : Value} {ps : List (PV × Value)} (h : AtL w Pr wr ((.bool b, v) :: ps)) : v = .bool b := by
  obtain ⟨Pr', _, _, _, h4⟩ := h
  exact (h4 _ List.mem_cons_self).bool_inv
theorem AtL.str {w : World} {Pr : Nat → Nat → Prop} {wr : World} {s : ByteArray} {v : Value} {ps : List (PV × Value)} (h : AtL w Pr wr ((.str s, v) :: ps)) : v = .string s := by
  obtain ⟨Pr', _, _, _, h4⟩ := h
  exact (h4 _ List.mem_cons_self).str_inv
theorem AtL.tail {w : World} {Pr : Nat → Nat → Prop} {wr : World} {q : PV × Value} {ps : List (PV × Value)} (h : AtL w Pr wr (q :: ps)) : AtL w Pr wr ps :=
  h.sub fun x hx => .inl (List.mem_cons_of_mem _ hx)
theorem AtL.two {w : World} {Pr : Nat → Nat → Prop} {wr : World} {p q : PV} {v : Value} {ps : List (PV × Value)} (h : AtL w Pr wr ((.tuple [p, q], v) :: ps)) : ∃ a b, v = .tuple #[a, b] ∧ AtL w Pr wr ((p, a) :: (q, b) :: ps) := by
  obtain ⟨Pr', h1, h2, h3, h4⟩ := h
  obtain ⟨xs, rfl, hl, hr⟩ := (h4 _ List.mem_cons_self : Rep _ (.tuple [p, q]) v).tuple_inv
  have hl2 : xs.size = 2 := hl
  refine ⟨xs[0], xs[1], ?_, Pr', h1, h2, h3, fun x hx => ?_⟩
  · congr 1
    refine Array.ext (by simp [hl2]) fun i hi hj => ?_
    have : i = 0 ∨ i = 1 := by omega
    rcases this with rfl | rfl <;> simp
  · rcases List.mem_cons.1 hx with rfl | hx
    · exact hr 0 p _ rfl (Array.getElem?_eq_getElem (by omega))
    · rcases List.mem_cons.1 hx with rfl | hx
      · exact hr 1 q _ rfl (Array.getElem?_eq_getElem (by omega))
      · exact h4 _ (List.mem_cons_of_mem _ hx)
/-- What is handed back. -/
theorem AtL.post {w : World} {Pr : Nat → Nat → Prop} {wr : World} {r : PV} {v : Value} {ps : List (PV × Value)} (h : AtL w Pr wr ((r, v) :: ps)) (hb : Below w.heap.size w wr) : Post w Pr r v wr := by
  obtain ⟨Pr', _, _, h3, h4⟩ := h
  exact ⟨(h4 _ List.mem_cons_self).mono (rd_mono h3), hb⟩
theorem AtL.mk2 {w : World} {Pr : Nat → Nat → Prop} {wr : World} {p q : PV} {a b : Value} {ps : List (PV × Value)} (h : AtL w Pr wr ((p, a) :: (q, b) :: ps)) : AtL w Pr wr ((.tuple [p, q], .tuple #[a, b]) :: ps) := by
  obtain ⟨Pr', h1, h2, h3, h4⟩ := h
  refine ⟨Pr', h1, h2, h3, fun x hx => ?_⟩
  rcases List.mem_cons.1 hx with rfl | hx
  · refine Rep.tuple _ _ rfl fun j c y hc hy => ?_
    match j with
    | 0 => cases hc; cases hy; exact h4 _ List.mem_cons_self
    | 1 => cases hc; cases hy; exact h4 _ (List.mem_cons_of_mem _ List.mem_cons_self)
    | j + 2 => simp at hc
  · exact h4 _ (List.mem_cons_of_mem _ (List.mem_cons_of_mem _ hx))
theorem args_i {ps : List (PV × Value)} {k : IntKind} {n : Int} : ∀ (j : Nat) p v, [PV.int k n][j]? = some p → #[Value.int k n][j]? = some v → (p, v) ∈ ps ∨ ∀ g, Rep g p v := fun j p v hp hv => by
  match j with
  | 0 => cases hp; cases hv; exact .inr fun g => .int _ _
  | j + 1 => simp at hp
theorem args_vi {ps : List (PV × Value)} {q : PV} {a : Value} {k : IntKind} {n : Int} (h : (q, a) ∈ ps) : ∀ (j : Nat) p v, [q, PV.int k n][j]? = some p → #[a, Value.int k n][j]? = some v → (p, v) ∈ ps ∨ ∀ g, Rep g p v := fun j p v hp hv => by
  match j with
  | 0 => cases hp; cases hv; exact .inl h
  | 1 => cases hp; cases hv; exact .inr fun g => .int _ _
  | j + 2 => simp at hp
theorem args_vv {ps : List (PV × Value)} {q r : PV} {a b : Value} (h : (q, a) ∈ ps) (h' : (r, b) ∈ ps) : ∀ (j : Nat) p v, [q, r][j]? = some p → #[a, b][j]? = some v → (p, v) ∈ ps ∨ ∀ g, Rep g p v := fun j p v hp hv => by
  match j with
  | 0 => cases hp; cases hv; exact .inl h
  | 1 => cases hp; cases hv; exact .inl h'
  | j + 2 => simp at hp
theorem below_iter {w W : World} (hb : Below w.heap.size w W) {k pos : Nat} {s : ByteArray} (hk : w.heap[k]? = some (Obj.stringIter s pos)) : W.heap[k]? = some (Obj.stringIter s pos) := by
  rw [hb.block k (Array.getElem?_eq_some_iff.1 hk).1]; exact hk
theorem below_to {B : Nat} {w a b : World} (h : Below B w a) (hB : B ≤ a.heap.size) (k : Below a.heap.size a b) : Below B w b :=
  h.trans ⟨k.os, k.tape, k.output, k.size, fun i hi => k.block i (by omega)⟩
end Go.Proofs.YtmnojbkakgfinaaDoor
end

/- Held values beside a list that the call builds. -/
section
open Go PG Go.Proofs Go.RowKit
set_option maxRecDepth 100000
set_option linter.unusedSimpArgs false
set_option linter.unusedVariables false
namespace Go.Proofs.YtmnojbkakgfinaaDoor

/-- As AtL, and no cell of theirs lies in the block ob. -/
def AtA (w : World) (Pr : Nat → Nat → Prop) (ob : Option Nat) (wr : World) (ps : List (PV × Value)) : Prop :=
  ∃ Pr' : Nat → Nat → Prop, (∀ g o, Pr' g o → g < wr.heap.size) ∧ (∀ g cs, E.G g = some cs → GRep (rd wr Pr') (.ref cs) (.pointer (some ⟨g, 0, none⟩)) (Whole wr g cs.length)) ∧
    (∀ g o, Pr' g o → Pr g o ∨ w.heap.size ≤ g) ∧ (∀ g o, Pr' g o → ob ≠ some g) ∧ (∀ g cs, E.G g = some cs → ob ≠ some g) ∧ ∀ q ∈ ps, Rep (rd wr Pr') q.1 q.2
theorem AtA.atL {w : World} {Pr : Nat → Nat → Prop} {ob : Option Nat} {wr : World} {ps : List (PV × Value)} (h : AtA w Pr ob wr ps) : AtL w Pr wr ps :=
  let ⟨p, a, b, c, _, _, d⟩ := h; ⟨p, a, b, c, d⟩
theorem AtA.sub {w : World} {Pr : Nat → Nat → Prop} {ob : Option Nat} {wr : World} {ps qs : List (PV × Value)} (h : AtA w Pr ob wr ps) (hs : ∀ q ∈ qs, q ∈ ps ∨ ∀ g, Rep g q.1 q.2) : AtA w Pr ob wr qs := by
  obtain ⟨Pr', h1, h2, h3, h4, h5, h6⟩ := h
  refine ⟨Pr', h1, h2, h3, h4, h5, fun q hq => ?_⟩
  rcases hs q hq with h | h
  · exact h6 q h
  · exact h _
/-- Nothing is built so far. -/
theorem AtL.noA {w : World} {Pr : Nat → Nat → Prop} {wr : World} {ps : List (PV × Value)} (h : AtL w Pr wr ps) : AtA w Pr none wr ps := by
  obtain ⟨Pr', h1, h2, h3, h4⟩ := h
  exact ⟨Pr', h1, h2, h3, fun _ _ _ => by simp, fun _ _ _ => by simp, h4⟩
/-- A world in which the old blocks but the built one stand as they stood; the built one is the old one or new. -/
theorem AtA.next {w : World} {Pr : Nat → Nat → Prop} {ob ob' : Option Nat} {wr W : World} {ps : List (PV × Value)} (h : AtA w Pr ob wr ps) (hsz : wr.heap.size ≤ W.heap.size)
    (hk : ∀ (k : Nat) (cs : Array Value) (t : TypeId) (fr : Nat × Nat), ob ≠ some k → wr.heap[k]? = some (Obj.cells cs t fr) → W.heap[k]? = some (Obj.cells cs t fr)) (ho : ob' = ob ∨ ob' = some wr.heap.size) : AtA w Pr ob' W ps := by
  obtain ⟨Pr', h1, h2, h3, h4, h5, h6⟩ := h
  have hle : ∀ a x, rd wr Pr' a = some x → rd W Pr' a = some x := rd_le fun a x hp hc => ⟨hp, by
    simp only [World.cell?] at hc ⊢
    split at hc
    · rename_i cs t fr hb
      rw [hk _ _ _ _ (h4 _ _ hp) hb]
      exact hc
    · cases hc⟩
  refine ⟨Pr', fun g o hp => Nat.lt_of_lt_of_le (h1 g o hp) hsz, fun g cs hg => ?_, h3, fun g o hp => ?_, fun g cs hg => ?_, fun q hq => (h6 q hq).mono hle⟩
  · obtain ⟨hr, hn, vs, t, fr, hb, hl⟩ := h2 g cs hg
    exact ⟨hr.mono hle, hn, vs, t, fr, hk _ _ _ _ (h5 g cs hg) hb, hl⟩
  · rcases ho with rfl | rfl
    · exact h4 g o hp
    · have := h1 g o hp
      intro e; cases e; omega
  · rcases ho with rfl | rfl
    · exact h5 g cs hg
    · obtain ⟨hr, hn, vs, t, fr, hb, hl⟩ := h2 g cs hg
      have := (Array.getElem?_eq_some_iff.1 hb).1
      intro e; cases e; omega
theorem AtA.below {w : World} {Pr : Nat → Nat → Prop} {ob : Option Nat} {wr W : World} {ps : List (PV × Value)} (h : AtA w Pr ob wr ps) (hb : Below wr.heap.size wr W) : AtA w Pr ob W ps :=
  h.next hb.size (fun k cs t fr _ hk => by rw [hb.block k (Array.getElem?_eq_some_iff.1 hk).1]; exact hk) (.inl rfl)
/-- A contract at held values. -/
theorem AtA.calls {w : World} {Pr : Nat → Nat → Prop} {ob : Option Nat} {wr : World} {ps : List (PV × Value)} (h : AtA w Pr ob wr ps) (hob : ∀ b, ob = some b → b < wr.heap.size) (hb : w.heap.size ≤ wr.heap.size) {f : FuncId} {args : List PV} {r : PV} (hpc : PC E f args r)
    (hent : ∀ (vs : Array Value) (w : World), (callFunc f vs).run E.P w = .ok (.enter f vs) w) {vs : Array Value} (hsz : vs.size = args.length) (hargs : ∀ (j : Nat) p v, args[j]? = some p → vs[j]? = some v → (p, v) ∈ ps ∨ ∀ g, Rep g p v) :
    Calls E.P f vs wr fun e W => ∃ v, e = .returned v ∧ Below wr.heap.size wr W ∧ AtA w Pr ob W ((r, v) :: ps) := by
  have h0 := h
  obtain ⟨Pr', h1, h2, h3, h4, h5, h6⟩ := h
  have := hpc wr Pr' vs h1 h2 hsz fun j p v hp hv => by
    rcases hargs j p v hp hv with hm | hm
    · exact h6 _ hm
    · exact hm _
  rw [hent] at this
  refine this.2.mono ?_
  rintro e W ⟨v, rfl, hrep, hbel⟩
  obtain ⟨P2, g1, g2, g3, g4, g5, g6⟩ := h0.below hbel
  have hlt : ∀ a x, rd W (fun g o => Pr' g o ∨ wr.heap.size ≤ g) a = some x → rd W (fun g o => (P2 g o ∨ Pr' g o ∨ wr.heap.size ≤ g) ∧ g < W.heap.size) a = some x := rd_le fun a x hp hc => ⟨⟨.inr hp, World.block_lt_of_cell? _ _ hc⟩, hc⟩
  have hle : ∀ a x, rd W P2 a = some x → rd W (fun g o => (P2 g o ∨ Pr' g o ∨ wr.heap.size ≤ g) ∧ g < W.heap.size) a = some x := rd_le fun a x hp hc => ⟨⟨.inl hp, World.block_lt_of_cell? _ _ hc⟩, hc⟩
  refine ⟨v, rfl, hbel, fun g o => (P2 g o ∨ Pr' g o ∨ wr.heap.size ≤ g) ∧ g < W.heap.size, fun g o hp => hp.2, fun g cs hg => (g2 g cs hg).mono hle, fun g o hp => ?_, fun g o hp => ?_, g5, fun q hq => ?_⟩
  · rcases hp.1 with hp | hp | hp
    · exact g3 g o hp
    · exact h3 g o hp
    · exact .inr (by omega)
  · rcases hp.1 with hp | hp | hp
    · exact g4 g o hp
    · exact h4 g o hp
    · intro e
      have := hob g e
      omega
  · rcases List.mem_cons.1 hq with rfl | hq
    · exact hrep.mono hlt
    · exact (g6 q hq).mono hle
theorem AtA.int_of {w : World} {Pr : Nat → Nat → Prop} {ob : Option Nat} {wr : World} {ps : List (PV × Value)} {k : IntKind} {n : Int} {v : Value} (h : AtA w Pr ob wr ps) (hm : (PV.int k n, v) ∈ ps) : v = .int k n := by
  obtain ⟨_, _, _, _, _, _, h6⟩ := h
  exact (h6 _ hm).int_inv
theorem AtA.three {w : World} {Pr : Nat → Nat → Prop} {ob : Option Nat} {wr : World} {p q r : PV} {v : Value} {ps : List (PV × Value)} (h : AtA w Pr ob wr ((.tuple [p, q, r], v) :: ps)) : ∃ a b c, v = .tuple #[a, b, c] ∧ AtA w Pr ob wr ((p, a) :: (q, b) :: (r, c) :: ps) := by
  obtain ⟨Pr', h1, h2, h3, h4, h5, h6⟩ := h
  obtain ⟨xs, rfl, hl, hr⟩ := (h6 _ List.mem_cons_self : Rep _ (.tuple [p, q, r]) v).tuple_inv
  have hl2 : xs.size = 3 := hl
  refine ⟨xs[0], xs[1], xs[2], ?_, Pr', h1, h2, h3, h4, h5, fun x hx => ?_⟩
  · congr 1
    refine Array.ext (by simp [hl2]) fun i hi hj => ?_
    have : i = 0 ∨ i = 1 ∨ i = 2 := by omega
    rcases this with rfl | rfl | rfl <;> simp
  · rcases List.mem_cons.1 hx with rfl | hx
    · exact hr 0 p _ rfl (Array.getElem?_eq_getElem (by omega))
    · rcases List.mem_cons.1 hx with rfl | hx
      · exact hr 1 q _ rfl (Array.getElem?_eq_getElem (by omega))
      · rcases List.mem_cons.1 hx with rfl | hx
        · exact hr 2 r _ rfl (Array.getElem?_eq_getElem (by omega))
        · exact h6 _ (List.mem_cons_of_mem _ hx)
end Go.Proofs.YtmnojbkakgfinaaDoor
end
