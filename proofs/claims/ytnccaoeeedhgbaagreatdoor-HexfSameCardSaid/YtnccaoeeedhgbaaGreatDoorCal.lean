/- Contracts as laws of calls, for the loops that are walked with the kit's own tactics: values that are held, world after world. -/
import Derived.Test.YtnccaoeeedhgbaaGreatDoorPgN
import Derived.BigCall
import Derived.Lib.OthersKept
open Go PG Go.Proofs Go.RowKit
set_option maxRecDepth 100000
set_option linter.unusedSimpArgs false
set_option linter.unusedVariables false
namespace Go.Proofs.YtnccaoeeedhgbaaGreatDoor

/-- Values that read so, out of what was protected when the call began and what was made since. -/
def AtL (w : World) (Pr : Nat → Nat → Prop) (wr : World) (ps : List (PV × Value)) : Prop :=
  ∃ Pr' : Nat → Nat → Prop, (∀ g o, Pr' g o → g < wr.heap.size) ∧ (∀ g cs, E.G g = some cs → GRep (rd wr Pr') (.ref cs) (.pointer (some ⟨g, 0, none⟩)) (Whole wr g cs.length)) ∧
    (∀ g o, Pr' g o → Pr g o ∨ w.heap.size ≤ g) ∧ ∀ q ∈ ps, Rep (rd wr Pr') q.1 q.2
theorem AtL.start {w : World} {Pr : Nat → Nat → Prop} (h1 : ∀ g o, Pr g o → g < w.heap.size) (h2 : ∀ g cs, E.G g = some cs → GRep (rd w Pr) (.ref cs) (.pointer (some ⟨g, 0, none⟩)) (Whole w g cs.length)) {ps : List (PV × Value)} (h : ∀ q ∈ ps, Rep (rd w Pr) q.1 q.2) : AtL w Pr w ps :=
  ⟨Pr, h1, h2, fun _ _ h => .inl h, h⟩
theorem AtL.sub {w : World} {Pr : Nat → Nat → Prop} {wr : World} {ps qs : List (PV × Value)} (h : AtL w Pr wr ps) (hs : ∀ q ∈ qs, q ∈ ps ∨ ∀ g, Rep g q.1 q.2) : AtL w Pr wr qs := by
  obtain ⟨Pr', h1, h2, h3, h4⟩ := h
  refine ⟨Pr', h1, h2, h3, fun q hq => ?_⟩
  rcases hs q hq with h | h
  · exact h4 q h
  · exact h _
/-- A world in which the old blocks of cells stand as they stood. -/
theorem AtL.next {w : World} {Pr : Nat → Nat → Prop} {wr W : World} {ps : List (PV × Value)} (h : AtL w Pr wr ps) (hsz : wr.heap.size ≤ W.heap.size) (hk : ∀ (k : Nat) (cs : Array Value) (t : TypeId) (fr : Nat × Nat), wr.heap[k]? = some (Obj.cells cs t fr) → W.heap[k]? = some (Obj.cells cs t fr)) : AtL w Pr W ps := by
  obtain ⟨Pr', h1, h2, h3, h4⟩ := h
  have hle : ∀ a x, rd wr Pr' a = some x → rd W Pr' a = some x := rd_le fun a x hp hc => ⟨hp, by
    simp only [World.cell?] at hc ⊢
    split at hc
    · rename_i cs t fr hb
      rw [hk _ _ _ _ hb]
      exact hc
    · cases hc⟩
  refine ⟨Pr', fun g o hp => Nat.lt_of_lt_of_le (h1 g o hp) hsz, fun g cs hg => ?_, h3, fun q hq => (h4 q hq).mono hle⟩
  obtain ⟨hr, hn, vs, t, fr, hb, hl⟩ := h2 g cs hg
  exact ⟨hr.mono hle, hn, vs, t, fr, hk _ _ _ _ hb, hl⟩
theorem AtL.below {w : World} {Pr : Nat → Nat → Prop} {wr W : World} {ps : List (PV × Value)} (h : AtL w Pr wr ps) (hb : Below wr.heap.size wr W) : AtL w Pr W ps :=
  h.next hb.size fun k cs t fr hk => by rw [hb.block k (Array.getElem?_eq_some_iff.1 hk).1]; exact hk
theorem AtL.iter {w : World} {Pr : Nat → Nat → Prop} {wr : World} {ps : List (PV × Value)} (h : AtL w Pr wr ps) {k pos : Nat} {s : ByteArray} (hk : wr.heap[k]? = some (.stringIter s pos)) (pos' : Nat) : AtL w Pr (wr.iterAt k s pos') ps :=
  h.next (by rw [Lib.iterAt_size]; exact Nat.le_refl _) fun j cs t fr hj => by
    by_cases e : j = k
    · subst e; rw [hk] at hj; cases hj
    · rw [Lib.iterAt_other wr k j s pos' e]; exact hj
/-- A contract at held values. -/
theorem AtL.calls {w : World} {Pr : Nat → Nat → Prop} {wr : World} {ps : List (PV × Value)} (h : AtL w Pr wr ps) (hb : w.heap.size ≤ wr.heap.size) {f : FuncId} {args : List PV} {r : PV} (hpc : PC E f args r)
    (hent : ∀ (vs : Array Value) (w : World), (callFunc f vs).run E.P w = .ok (.enter f vs) w) {vs : Array Value} (hsz : vs.size = args.length) (hargs : ∀ (j : Nat) p v, args[j]? = some p → vs[j]? = some v → (p, v) ∈ ps ∨ ∀ g, Rep g p v) :
    Calls E.P f vs wr fun e W => ∃ v, e = .returned v ∧ Below wr.heap.size wr W ∧ AtL w Pr W ((r, v) :: ps) := by
  have h0 := h
  obtain ⟨Pr', h1, h2, h3, h4⟩ := h
  have := hpc wr Pr' vs h1 h2 hsz fun j p v hp hv => by
    rcases hargs j p v hp hv with hm | hm
    · exact h4 _ hm
    · exact hm _
  rw [hent] at this
  refine this.2.mono ?_
  rintro e W ⟨v, rfl, hrep, hbel⟩
  obtain ⟨P2, g1, g2, g3, g4⟩ := h0.below hbel
  have hlt : ∀ a x, rd W (fun g o => Pr' g o ∨ wr.heap.size ≤ g) a = some x → rd W (fun g o => (P2 g o ∨ Pr' g o ∨ wr.heap.size ≤ g) ∧ g < W.heap.size) a = some x := rd_le fun a x hp hc => ⟨⟨.inr hp, World.block_lt_of_cell? _ _ hc⟩, hc⟩
  have hle : ∀ a x, rd W P2 a = some x → rd W (fun g o => (P2 g o ∨ Pr' g o ∨ wr.heap.size ≤ g) ∧ g < W.heap.size) a = some x := rd_le fun a x hp hc => ⟨⟨.inl hp, World.block_lt_of_cell? _ _ hc⟩, hc⟩
  refine ⟨v, rfl, hbel, fun g o => (P2 g o ∨ Pr' g o ∨ wr.heap.size ≤ g) ∧ g < W.heap.size, fun g o hp => hp.2, fun g cs hg => (g2 g cs hg).mono hle, fun g o hp => ?_, fun q hq => ?_⟩
  · rcases hp.1 with hp | hp | hp
    · exact g3 g o hp
    · exact h3 g o hp
    · exact .inr (by omega)
  · rcases List.mem_cons.1 hq with rfl | hq
    · exact hrep.mono hlt
    · exact (g4 q hq).mono hle
theorem AtL.int {w : World} {Pr : Nat → Nat → Prop} {wr : World} {k : IntKind} {n : Int} {v : Value} {ps : List (PV × Value)} (h : AtL w Pr wr ((.int k n, v) :: ps)) : v = .int k n := by
  obtain ⟨Pr', _, _, _, h4⟩ := h
  exact (h4 _ List.mem_cons_self).int_inv
theorem AtL.bool {w : World} {Pr : Nat → Nat → Prop} {wr : World} {b : Bool} {v : Value} {ps : List (PV × Value)} (h : AtL w Pr wr ((.bool b, v) :: ps)) : v = .bool b := by
  obtain ⟨Pr', _, _, _, h4⟩ := h
  exact (h4 _ List.mem_cons_self).bool_inv
theorem AtL.str {w : World} {Pr : Nat → Nat → Prop} {wr : World} {s : ByteArray} {v : Value} {ps : List (PV × Value)} (h : AtL w Pr wr ((.str s, v) :: ps)) : v = .string s := by
  obtain ⟨Pr', _, _, _, h4⟩ := h
  exact (h4 _ List.mem_cons_self).str_inv
theorem AtL.tail {w : World} {Pr : Nat → Nat → Prop} {wr : World} {q : PV × Value} {ps : List (PV × Value)} (h : AtL w Pr wr (q :: ps)) : AtL w Pr wr ps :=
  h.sub fun x hx => .inl (List.mem_cons_of_mem _ hx)
theorem AtL.two {w : World} {Pr : Nat → Nat → Prop} {wr : World} {p q : PV} {v : Value} {ps : List (PV × Value)} (h : AtL w Pr wr ((.tuple [p, q], v) :: ps)) : ∃ a b, v = .tuple #[a, b] ∧ AtL w Pr wr ((p, a) :: (q, b) :: ps) := by
  obtain ⟨Pr', h1, h2, h3, h4⟩ := h
  obtain ⟨xs, rfl, hl, hr⟩ := (h4 _ List.mem_cons_self : Rep _ (.tuple [p, q]) v).tuple_inv
  have hl2 : xs.size = 2 := hl
  refine ⟨xs[0], xs[1], ?_, Pr', h1, h2, h3, fun x hx => ?_⟩
  · congr 1
    refine Array.ext (by simp [hl2]) fun i hi hj => ?_
    have : i = 0 ∨ i = 1 := by omega
    rcases this with rfl | rfl <;> simp
  · rcases List.mem_cons.1 hx with rfl | hx
    · exact hr 0 p _ rfl (Array.getElem?_eq_getElem (by omega))
    · rcases List.mem_cons.1 hx with rfl | hx
      · exact hr 1 q _ rfl (Array.getElem?_eq_getElem (by omega))
      · exact h4 _ (List.mem_cons_of_mem _ hx)
/-- What is handed back. -/
theorem AtL.post {w : World} {Pr : Nat → Nat → Prop} {wr : World} {r : PV} {v : Value} {ps : List (PV × Value)} (h : AtL w Pr wr ((r, v) :: ps)) (hb : Below w.heap.size w wr) : Post w Pr r v wr := by
  obtain ⟨Pr', _, _, h3, h4⟩ := h
  exact ⟨(h4 _ List.mem_cons_self).mono (rd_mono h3), hb⟩
theorem AtL.mk2 {w : World} {Pr : Nat → Nat → Prop} {wr : World} {p q : PV} {a b : Value} {ps : List (PV × Value)} (h : AtL w Pr wr ((p, a) :: (q, b) :: ps)) : AtL w Pr wr ((.tuple [p, q], .tuple #[a, b]) :: ps) := by
  obtain ⟨Pr', h1, h2, h3, h4⟩ := h
  refine ⟨Pr', h1, h2, h3, fun x hx => ?_⟩
  rcases List.mem_cons.1 hx with rfl | hx
  · refine Rep.tuple _ _ rfl fun j c y hc hy => ?_
    match j with
    | 0 => cases hc; cases hy; exact h4 _ List.mem_cons_self
    | 1 => cases hc; cases hy; exact h4 _ (List.mem_cons_of_mem _ List.mem_cons_self)
    | j + 2 => simp at hc
  · exact h4 _ (List.mem_cons_of_mem _ (List.mem_cons_of_mem _ hx))
theorem args_i {ps : List (PV × Value)} {k : IntKind} {n : Int} : ∀ (j : Nat) p v, [PV.int k n][j]? = some p → #[Value.int k n][j]? = some v → (p, v) ∈ ps ∨ ∀ g, Rep g p v := fun j p v hp hv => by
  match j with
  | 0 => cases hp; cases hv; exact .inr fun g => .int _ _
  | j + 1 => simp at hp
theorem args_vi {ps : List (PV × Value)} {q : PV} {a : Value} {k : IntKind} {n : Int} (h : (q, a) ∈ ps) : ∀ (j : Nat) p v, [q, PV.int k n][j]? = some p → #[a, Value.int k n][j]? = some v → (p, v) ∈ ps ∨ ∀ g, Rep g p v := fun j p v hp hv => by
  match j with
  | 0 => cases hp; cases hv; exact .inl h
  | 1 => cases hp; cases hv; exact .inr fun g => .int _ _
  | j + 2 => simp at hp
theorem args_vv {ps : List (PV × Value)} {q r : PV} {a b : Value} (h : (q, a) ∈ ps) (h' : (r, b) ∈ ps) : ∀ (j : Nat) p v, [q, r][j]? = some p → #[a, b][j]? = some v → (p, v) ∈ ps ∨ ∀ g, Rep g p v := fun j p v hp hv => by
  match j with
  | 0 => cases hp; cases hv; exact .inl h
  | 1 => cases hp; cases hv; exact .inl h'
  | j + 2 => simp at hp
theorem below_iter {w W : World} (hb : Below w.heap.size w W) {k pos : Nat} {s : ByteArray} (hk : w.heap[k]? = some (Obj.stringIter s pos)) : W.heap[k]? = some (Obj.stringIter s pos) := by
  rw [hb.block k (Array.getElem?_eq_some_iff.1 hk).1]; exact hk
theorem below_to {B : Nat} {w a b : World} (h : Below B w a) (hB : B ≤ a.heap.size) (k : Below a.heap.size a b) : Below B w b :=
  h.trans ⟨k.os, k.tape, k.output, k.size, fun i hi => k.block i (by omega)⟩
end Go.Proofs.YtnccaoeeedhgbaaGreatDoor
