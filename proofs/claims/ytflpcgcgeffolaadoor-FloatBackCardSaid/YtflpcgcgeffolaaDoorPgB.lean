/- THE PURE READING OF A GO FUNCTION, 2: how a frame and a world stand to a pure state, and what keeps it so: a slot written, blocks given away, a new block, a store, an append, a call. -/
import Derived.Test.YtflpcgcgeffolaaDoorPgA
import Derived.RangeFuncFrom
import Derived.RangeFuncCalls
import Derived.OrdersIn
import Derived.Maps.AppendAt
set_option linter.unusedVariables false
set_option linter.unusedSimpArgs false
namespace PG
open Go Go.RowKit

def putτ (τ : Nat → Option SV) (dst : Option Tmp) (v : SV) : Nat → Option SV :=
  match dst with
  | some d => fun t => if t = d then some v else τ t
  | none => τ

def frzσ (σ : Nat → Option (Bk × Bool)) (fz : List Nat) : Nat → Option (Bk × Bool) :=
  fun k => if k ∈ fz then (σ k).map (fun b => (b.1, true)) else σ k

def updσ (σ : Nat → Option (Bk × Bool)) (d : Nat) (b : Option (Bk × Bool)) : Nat → Option (Bk × Bool) := fun k => if k = d then b else σ k

def SV.key : SV → Option Nat
  | .row k | .ptr k _ | .sub k _ _ => some k
  | _ => none

def killτ (τ : Nat → Option SV) (ks : List Nat) : Nat → Option SV :=
  fun t => match τ t with
    | some v => match v.key with
      | some k => if k ∈ ks then some .junk else some v
      | none => some v
    | none => none

/-- The block that a handle leads to. -/
def home : Value → Option Nat
  | .pointer (some a) => some a.block
  | .slice (some a) _ _ => some a.block
  | _ => none

theorem home_ownBlock (v : Value) (g : Nat) (h : v.ownBlock = some g) : home v = some g := by
  unfold Value.ownBlock at h; split at h
  · simpa [home] using h
  · cases h

def SRep (g : Addr → Option Value) (m : Nat → Value) : SV → Value → Prop
  | .val v, x => Rep g v x
  | .nil, x => x = .slice none 0 0
  | .row k, x => x = m k
  | .ptr k o, x => ∃ b, home (m k) = some b ∧ x = .pointer (some ⟨b, o, none⟩)
  | .sub k o n, x => ∃ b c, home (m k) = some b ∧ x = .slice (some ⟨b, o, none⟩) n c ∧ n ≤ c ∧ c ≤ maxLen
  | .junk, _ => True

def Shape (w : World) (m : Value) (xs : List Value) : Bk → Prop
  | .box _ => ∃ g e cur, m = .pointer (some ⟨g, 0, none⟩) ∧ w.heap[g]? = some (.cells cur e (0, 0)) ∧ cur.toList = xs
  | .row e s n _ => w.ownsRow 0 e s m n xs

def All2 (g : Addr → Option Value) (cs : List PV) (xs : List Value) : Prop :=
  xs.length = cs.length ∧ (∀ (j : Nat) x, xs[j]? = some x → x.oneCell' = true) ∧ ∀ (j : Nat) c x, cs[j]? = some c → xs[j]? = some x → Rep g c x

theorem All2.mono {g g' : Addr → Option Value} (hg : ∀ a x, g a = some x → g' a = some x) {cs : List PV} {xs : List Value} (h : All2 g cs xs) : All2 g' cs xs :=
  ⟨h.1, h.2.1, fun j c x hc hx => (h.2.2 j c x hc hx).mono hg⟩

def BRep (O : Nat → Prop) (w : World) (Pr : Nat → Nat → Prop) (m : Value) (b : Bk × Bool) : Prop :=
  ∃ xs, All2 (rd w Pr) b.1.cells xs ∧ Shape w m xs b.1 ∧ ∀ g, home m = some g → O g ∧ ∀ o, Pr g o ↔ (b.2 = true ∧ o < b.1.cells.length)

theorem Shape.at_ {w : World} {m : Value} {xs : List Value} {b : Bk} (h : Shape w m xs b) {g : Nat} (hg : home m = some g) :
    ∃ cur e, w.heap[g]? = some (.cells cur e (0, 0)) ∧ cur.toList.take xs.length = xs := by
  cases b with
  | box cs =>
    obtain ⟨g', e, cur, rfl, hh, rfl⟩ := h
    simp only [home, Option.some.injEq] at hg
    subst hg
    exact ⟨cur, e, hh, List.take_of_length_le (Nat.le_refl _)⟩
  | row e s n cs =>
    obtain ⟨hl, h | ⟨g', cap, cur, rfl, hb, hh, _, _, _, ht⟩⟩ := h
    · obtain ⟨rfl, _⟩ := h; simp [home] at hg
    · simp only [home, Option.some.injEq] at hg
      subst hg
      exact ⟨cur, e, hh, by rw [hl]; exact ht⟩

theorem Shape.lt {w : World} {m : Value} {xs : List Value} {b : Bk} (h : Shape w m xs b) {g : Nat} (hg : home m = some g) : g < w.heap.size := by
  obtain ⟨cur, e, hh, _⟩ := h.at_ hg
  exact (Array.getElem?_eq_some_iff.1 hh).1

theorem Shape.cell {w : World} {m : Value} {xs : List Value} {b : Bk} (h : Shape w m xs b) {g : Nat} (hg : home m = some g) (j : Nat) (x : Value) (hx : xs[j]? = some x) :
    w.cell? ⟨g, j, none⟩ = some x := by
  obtain ⟨cur, e, hh, ht⟩ := h.at_ hg
  rw [cell_of_row w g j cur e (0, 0) hh]
  rw [← ht, List.getElem?_take] at hx
  split at hx
  · simpa using hx
  · cases hx

theorem Shape.keep {w w' : World} {m : Value} {xs : List Value} {b : Bk} (h : Shape w m xs b) (hk : ∀ g, home m = some g → w'.heap[g]? = w.heap[g]?) : Shape w' m xs b := by
  cases b with
  | box cs =>
    obtain ⟨g', e, cur, rfl, hh, rfl⟩ := h
    exact ⟨g', e, cur, rfl, by rw [hk g' rfl]; exact hh, rfl⟩
  | row e s n cs =>
    obtain ⟨hl, h | ⟨g', cap, cur, rfl, hb, hh, h4⟩⟩ := h
    · exact ⟨hl, .inl h⟩
    · exact ⟨hl, .inr ⟨g', cap, cur, rfl, hb, by rw [hk g' rfl]; exact hh, h4⟩⟩

theorem addr_add (g j o : Nat) : (⟨g, o, none⟩ : Addr).add j = ⟨g, o + j, none⟩ := by
  unfold Addr.add; split <;> simp_all

theorem add_block (a : Addr) (n : Nat) : (a.add n).block = a.block := by unfold Addr.add; split <;> rfl
theorem add_add (a : Addr) (i j : Nat) : (a.add i).add j = a.add (i + j) := by
  unfold Addr.add
  by_cases hi : i = 0 <;> by_cases hj : j = 0 <;> simp [hi, hj, Nat.add_assoc]

/-- What is deferred: the empty lists that loops over functions have left. -/
def DfrOk (O : Nat → Prop) (a : Act) (w : World) : Prop :=
  ∃ Ds : List Nat, a.defers = Ds.map (fun D => { target := .collected D, args := #[] }) ∧ Ds.Nodup ∧ ∀ D ∈ Ds, O D ∧ w.heap[D]? = some (.deferred (some []))

theorem dfrOk_nil {O : Nat → Prop} {a : Act} {w : World} (h : a.defers = []) : DfrOk O a w := ⟨[], h, List.nodup_nil, fun D hD => by cases hD⟩

/-- What a round, or a call, began with: the world, the handles, what could be read. -/
structure Gh where
  w : World
  m : Nat → Value
  g : Addr → Option Value

/-- The world in which a call began, and the blocks that it may write: all the new ones, and some. -/
structure Fm where
  w : World
  O : Nat → Prop
  top : ∀ k, w.heap.size ≤ k → O k

theorem dk_keep {O : Nat → Prop} {a : Act} {wk w w' : World} (h : DfrOk O a w ∧ KeepsOthers wk w) (hk : KeepsOthers w w') : DfrOk O a w' ∧ KeepsOthers wk w' :=
  ⟨let ⟨Ds, e, hn, hD⟩ := h.1; ⟨Ds, e, hn, fun D hm => ⟨(hD D hm).1, hk.same D _ (hD D hm).2 rfl⟩⟩, h.2.trans hk⟩

/-- But for the blocks named the world is as it was. -/
structure Bel (O : Nat → Prop) (w w' : World) : Prop where
  os : w'.os = w.os
  tape : w'.tape = w.tape
  output : w'.output = w.output
  size : w.heap.size ≤ w'.heap.size
  block : ∀ k, ¬ O k → w'.heap[k]? = w.heap[k]?

theorem Bel.refl (O : Nat → Prop) (w : World) : Bel O w w := ⟨rfl, rfl, rfl, Nat.le_refl _, fun _ _ => rfl⟩
theorem Bel.trans {O : Nat → Prop} {a b c : World} (h : Bel O a b) (k : Bel O b c) : Bel O a c :=
  ⟨k.os.trans h.os, k.tape.trans h.tape, k.output.trans h.output, Nat.le_trans h.size k.size, fun i hi => (k.block i hi).trans (h.block i hi)⟩
theorem Bel.mono {O O' : Nat → Prop} {w w' : World} (h : Bel O w w') (hO : ∀ k, O k → O' k) : Bel O' w w' := ⟨h.os, h.tape, h.output, h.size, fun k hk => h.block k fun hk' => hk (hO k hk')⟩
theorem Bel.drew {O : Nat → Prop} {a w : World} (h : Bel O a w) : Bel O a w.drew := ⟨h.os, h.tape, h.output, h.size, h.block⟩
theorem Bel.alloc {O : Nat → Prop} {a w : World} (h : Bel O a w) (hB : O w.heap.size) (o : Obj) : Bel O a (w.alloc o) :=
  h.trans ⟨rfl, rfl, rfl, by simp, fun k hk => by
    show (w.heap.push o)[k]? = _
    rw [Array.getElem?_push, if_neg (show ¬ k = w.heap.size from fun e => hk (by rw [e]; exact hB))]⟩
theorem Bel.setCell {O : Nat → Prop} {a w : World} (h : Bel O a w) {p : Addr} (hp : O p.block) (u : Value) : Bel O a (w.setCell p u) :=
  h.trans ⟨rfl, rfl, rfl, by simp [World.setCell], fun k hk => Below.heap_setCell _ _ _ _ (fun e => hk (e ▸ hp))⟩
theorem Bel.grown {O : Nat → Prop} {a w w' : World} {row : Option Nat} (h : Bel O a w) (hg : w.grownBy w' row) (hB : ∀ k, w.heap.size ≤ k → O k) (hr : ∀ k, row = some k → O k) : Bel O a w' :=
  h.trans ⟨hg.os, hg.tape, hg.output, hg.size, fun k hk => hg.block k (Nat.lt_of_not_le fun hle => hk (hB k hle)) (fun e => hk (hr k e.symm))⟩
theorem Bel.of_below {O : Nat → Prop} {w w' : World} (h : Below w.heap.size w w') (hB : ∀ k, w.heap.size ≤ k → O k) : Bel O w w' :=
  ⟨h.os, h.tape, h.output, h.size, fun k hk => h.block k (Nat.lt_of_not_le fun hle => hk (hB k hle))⟩
theorem Bel.below {w w' : World} (h : Bel (fun k => w.heap.size ≤ k) w w') : Below w.heap.size w w' := ⟨h.os, h.tape, h.output, h.size, fun k hk => h.block k (Nat.not_le.2 hk)⟩

theorem keeps_below {w w' : World} (h : Below w.heap.size w w') : KeepsOthers w w' :=
  ⟨h.size, fun k o hk _ => (h.block k (Array.getElem?_eq_some_iff.1 hk).1).trans hk⟩

/-- How a frame and a world stand to a pure state. m: what each block's handle is; Pr: what may be read by others and is never written again. -/
structure Rel (E : PE) (N : Nat) (wk : Gh) (w0 : Fm) (Pr0 : Nat → Nat → Prop) (s : PS) (m : Nat → Value) (Pr : Nat → Nat → Prop) (a : Act) (w : World) : Prop where
  below : Bel w0.O w0.w w
  dfr : DfrOk w0.O a w ∧ KeepsOthers wk.w w
  pin : ∀ k, N ≤ k → m k = wk.m k
  keep : ∀ p x, wk.g p = some x → rd w Pr p = some x
  sz : a.tmps.size = N
  pr0 : ∀ b o, Pr0 b o → Pr b o
  new : ∀ b o, Pr b o → Pr0 b o ∨ w0.O b
  bnd : ∀ b o, Pr b o → b < w.heap.size
  glob : ∀ g cs, E.G g = some cs → Rep (rd w Pr) (.ref cs) (.pointer (some ⟨g, 0, none⟩))
  tmp : ∀ t v, s.τ t = some v → ∃ x, a.tmps[t]? = some x ∧ SRep (rd w Pr) m v x
  blk : ∀ k b, s.σ k = some b → BRep w0.O w Pr (m k) b
  sep : ∀ k k' b b', s.σ k = some b → s.σ k' = some b' → k ≠ k' → ∀ h, home (m k) = some h → home (m k') ≠ some h

section
variable {E : PE} {N : Nat} {wk : Gh} {w0 : Fm} {Pr0 : Nat → Nat → Prop} {s : PS} {m : Nat → Value} {Pr : Nat → Nat → Prop} {a : Act} {w : World}

theorem cst_rep {g : Addr → Option Value} {v : Value} {p : PV} (h : cst v = some p) : Rep g p v := by
  unfold cst at h
  split at h <;> first | (cases h; done) | (cases h; constructor)

theorem getD_of {tmps : Array Value} {t : Nat} {x : Value} (h : tmps[t]? = some x) : tmps.getD t undef = x := by
  simp [h]

theorem Rel.opSV (h : Rel E N wk w0 Pr0 s m Pr a w) {x : Operand} {v : SV} (hv : opSV E s.τ x = some v) : SRep (rd w Pr) m v (a.eval x) := by
  cases x with
  | tmp t =>
    obtain ⟨x, hx, hr⟩ := h.tmp t v hv
    simp only [Act.eval, getD_of hx]
    exact hr
  | const c =>
    simp only [PG.opSV] at hv
    unfold constSV at hv
    split at hv
    · cases hv; rfl
    · cases hv; trivial
    · simp only [Option.map_eq_some_iff] at hv
      obtain ⟨p, hp, rfl⟩ := hv
      exact cst_rep hp
  | global g =>
    simp only [PG.opSV, Option.map_eq_some_iff] at hv
    obtain ⟨cs, hc, rfl⟩ := hv
    exact h.glob g cs hc
  | func f =>
    simp only [PG.opSV, Option.some.injEq] at hv
    subst hv
    exact Rep.clo f [] #[] rfl (fun j c x hc _ => by simp at hc)

/-- A slot is written. -/
theorem Rel.put (h : Rel E N wk w0 Pr0 s m Pr a w) (dst : Option Tmp) (hd : ∀ d, dst = some d → d < N) {v : SV} {x : Value} (hv : SRep (rd w Pr) m v x) :
    Rel E N wk w0 Pr0 ⟨putτ s.τ dst v, s.σ⟩ m Pr (a.put dst x) w := by
  cases dst with
  | none => exact h
  | some d =>
    refine ⟨h.below, h.dfr, h.pin, h.keep, by simpa [Act.put] using h.sz, h.pr0, h.new, h.bnd, h.glob, fun t u hu => ?_, h.blk, h.sep⟩
    simp only [putτ] at hu
    have hlt : d < a.tmps.size := by rw [h.sz]; exact hd d rfl
    by_cases ht : t = d
    · subst ht
      simp only [if_true, Option.some.injEq] at hu
      subst hu
      exact ⟨x, by simp [Act.put, hlt], hv⟩
    · simp only [ht, if_false] at hu
      obtain ⟨y, hy, hr⟩ := h.tmp t u hu
      refine ⟨y, ?_, hr⟩
      simp only [Act.put]
      rw [Array.getElem?_setIfInBounds_ne (fun e => ht e.symm)]
      exact hy

/-- Less is known. -/
theorem Rel.less (h : Rel E N wk w0 Pr0 s m Pr a w) {s' : PS} (hτ : ∀ t v, s'.τ t = some v → s.τ t = some v) (hσ : s'.σ = s.σ) : Rel E N wk w0 Pr0 s' m Pr a w := by
  obtain ⟨τ', σ'⟩ := s'
  simp only at hσ; subst hσ
  exact ⟨h.below, h.dfr, h.pin, h.keep, h.sz, h.pr0, h.new, h.bnd, h.glob, fun t v hv => h.tmp t v (hτ t v hv), h.blk, h.sep⟩

theorem SRep.mono {g g' : Addr → Option Value} (hg : ∀ a x, g a = some x → g' a = some x) {m m' : Nat → Value} {v : SV} {x : Value}
    (hk : ∀ k, v.key = some k → m' k = m k) (h : SRep g m v x) : SRep g' m' v x := by
  cases v with
  | val p => exact Rep.mono hg h
  | nil => exact h
  | row k => simp only [SRep] at h ⊢; rw [hk k rfl]; exact h
  | ptr k o => simp only [SRep] at h ⊢; rw [hk k rfl]; exact h
  | sub k o n => simp only [SRep] at h ⊢; rw [hk k rfl]; exact h
  | junk => trivial

/-- Blocks are given away: one. -/
theorem Rel.freeze1 (h : Rel E N wk w0 Pr0 s m Pr a w) (k : Nat) :
    ∃ Pr', (∀ b o, Pr b o → Pr' b o) ∧ Rel E N wk w0 Pr0 ⟨s.τ, frzσ s.σ [k]⟩ m Pr' a w := by
  cases hk : s.σ k with
  | none =>
    have he : frzσ s.σ [k] = s.σ := by
      funext j; unfold frzσ; by_cases hj : j = k
      · subst hj; simp [hk]
      · simp [hj]
    exact ⟨Pr, fun _ _ h => h, by rw [he]; exact h⟩
  | some bf =>
    obtain ⟨b, fl⟩ := bf
    let Pr' : Nat → Nat → Prop := fun g o => Pr g o ∨ (home (m k) = some g ∧ o < b.cells.length)
    have hbk := h.blk k _ hk
    have hle : ∀ a x, rd w Pr a = some x → rd w Pr' a = some x := rd_le fun a x hp hc => ⟨.inl hp, hc⟩
    refine ⟨Pr', fun _ _ h => .inl h, h.below, h.dfr, h.pin, fun p x hx => hle _ _ (h.keep p x hx), h.sz, fun _ _ h0 => .inl (h.pr0 _ _ h0), ?_, ?_, fun g cs hg => (h.glob g cs hg).mono hle, ?_, ?_, ?_⟩
    · rintro g o (hp | ⟨hg, _⟩)
      · exact h.new g o hp
      · obtain ⟨xs, _, _, hpr⟩ := hbk
        exact .inr (hpr g hg).1
    · rintro g o (hp | ⟨hg, _⟩)
      · exact h.bnd g o hp
      · obtain ⟨xs, _, hsh, _⟩ := hbk
        exact hsh.lt hg
    · intro t v hv
      obtain ⟨x, hx, hr⟩ := h.tmp t v hv
      exact ⟨x, hx, hr.mono hle fun _ _ => rfl⟩
    · intro j bj hj
      simp only [frzσ, List.mem_singleton] at hj
      by_cases hjk : j = k
      · subst hjk
        simp only [if_true, hk, Option.map_some, Option.some.injEq] at hj
        subst hj
        obtain ⟨xs, ha, hsh, hpr⟩ := hbk
        refine ⟨xs, ha.mono hle, hsh, fun g hg => ⟨(hpr g hg).1, fun o => ?_⟩⟩
        simp only [Pr', hg, true_and]
        rw [(hpr g hg).2 o]
        constructor
        · rintro (⟨_, h⟩ | h) <;> exact h
        · intro h; exact .inr h
      · simp only [hjk, if_false] at hj
        obtain ⟨xs, ha, hsh, hpr⟩ := h.blk j bj hj
        refine ⟨xs, ha.mono hle, hsh, fun g hg => ⟨(hpr g hg).1, fun o => ?_⟩⟩
        rw [← (hpr g hg).2 o]
        constructor
        · rintro (hp | ⟨hg', _⟩)
          · exact hp
          · exact absurd hg (h.sep k j _ _ hk hj (fun e => hjk e.symm) g hg')
        · exact .inl
    · intro j j' b1 b2 hj hj' hne
      have e : ∀ i bi, frzσ s.σ [k] i = some bi → ∃ b0, s.σ i = some b0 := by
        intro i bi hi
        simp only [frzσ] at hi
        split at hi
        · simp only [Option.map_eq_some_iff] at hi
          obtain ⟨b0, h0, _⟩ := hi
          exact ⟨b0, h0⟩
        · exact ⟨bi, hi⟩
      obtain ⟨c1, h1⟩ := e _ _ hj
      obtain ⟨c2, h2⟩ := e _ _ hj'
      exact h.sep j j' c1 c2 h1 h2 hne

theorem frzσ_cons (σ : Nat → Option (Bk × Bool)) (k : Nat) (ks : List Nat) : frzσ (frzσ σ [k]) ks = frzσ σ (k :: ks) := by
  funext j
  simp only [frzσ, List.mem_cons, List.not_mem_nil, or_false]
  by_cases h1 : j ∈ ks <;> by_cases h2 : j = k <;> simp [h1, h2, Function.comp_def]

theorem frzσ_nil (σ : Nat → Option (Bk × Bool)) : frzσ σ [] = σ := by funext j; simp [frzσ]

/-- .. and as many as are named. -/
theorem Rel.freeze (fz : List Nat) : ∀ {s : PS} {Pr : Nat → Nat → Prop}, Rel E N wk w0 Pr0 s m Pr a w →
    ∃ Pr', (∀ b o, Pr b o → Pr' b o) ∧ Rel E N wk w0 Pr0 ⟨s.τ, frzσ s.σ fz⟩ m Pr' a w := by
  induction fz with
  | nil => intro s Pr h; exact ⟨Pr, fun _ _ h => h, by rw [frzσ_nil]; exact h⟩
  | cons k ks ih =>
    intro s Pr h
    obtain ⟨P1, h1, r1⟩ := h.freeze1 k
    obtain ⟨P2, h2, r2⟩ := ih r1
    exact ⟨P2, fun b o hp => h2 b o (h1 b o hp), by rw [← frzσ_cons]; exact r2⟩

theorem rd_mono {w : World} {Pr Pr' : Nat → Nat → Prop} (h : ∀ b o, Pr b o → Pr' b o) : ∀ a x, rd w Pr a = some x → rd w Pr' a = some x :=
  rd_le fun _ _ hp hc => ⟨h _ _ hp, hc⟩

theorem rd_below {w w' : World} {Pr : Nat → Nat → Prop} (hb : ∀ b o, Pr b o → b < w.heap.size) (h : Below w.heap.size w w') : ∀ a x, rd w Pr a = some x → rd w' Pr a = some x :=
  rd_le fun a x hp hc => ⟨hp, by rw [h.cell (hb _ _ hp)]; exact hc⟩

/-- What stands in a frozen block may be read. -/
theorem Rel.frozen_row (h : Rel E N wk w0 Pr0 s m Pr a w) {k : Nat} {e : TypeId} {z n : Nat} {cs : List PV} (hk : s.σ k = some (.row e z n cs, true)) : Rep (rd w Pr) (.lst n cs) (m k) := by
  obtain ⟨xs, ⟨hl, h1, hr⟩, hsh, hpr⟩ := h.blk k _ hk
  have hsh0 := hsh
  obtain ⟨hl', hd⟩ := hsh
  rcases hd with ⟨hm, hn⟩ | ⟨g, cap, cur, hm, hb, hh, hnc, hc, hcs, ht⟩
  · subst hn
    have hx : xs = [] := List.eq_nil_of_length_eq_zero (by simpa using hl')
    subst hx
    have hc : cs = [] := List.eq_nil_of_length_eq_zero (by simpa [Bk.cells] using hl.symm)
    subst hc
    rw [hm]
    exact .nil
  · rw [hm]
    refine .lst _ n cap cs xs hnc hc hl h1 (fun j x hx => ?_) hr
    rw [addr_add, Nat.zero_add, rd_some]
    refine ⟨((hpr g (by rw [hm]; rfl)).2 j).2 ⟨rfl, ?_⟩, hsh0.cell (by rw [hm]; rfl) j x hx⟩
    have := (List.getElem?_eq_some_iff.1 hx).1
    simp only [Bk.cells] at hl ⊢
    omega

theorem getElem?_drop' {α : Type} (l : List α) (i j : Nat) : (l.drop i)[j]? = l[i + j]? := by simp

theorem Rel.frozen_ptr (h : Rel E N wk w0 Pr0 s m Pr a w) {k : Nat} {b : Bk} (hk : s.σ k = some (b, true)) {g : Nat} (hg : home (m k) = some g) (off : Nat) :
    Rep (rd w Pr) (.ref (b.cells.drop off)) (.pointer (some ⟨g, off, none⟩)) := by
  obtain ⟨xs, ⟨hl, h1, hr⟩, hsh, hpr⟩ := h.blk k _ hk
  refine .ref _ _ (xs.drop off) (by simp [hl]) (fun j x hx => h1 (off + j) x (by simpa using hx)) (fun j x hx => ?_) (fun j c x hc hx => hr (off + j) c x (by simpa using hc) (by simpa using hx))
  rw [List.getElem?_drop] at hx
  rw [addr_add, rd_some]
  have hlt := (List.getElem?_eq_some_iff.1 hx).1
  exact ⟨((hpr g hg).2 _).2 ⟨rfl, by show off + j < b.cells.length; have hl' : xs.length = b.cells.length := hl; omega⟩, hsh.cell hg _ x hx⟩

theorem Rel.frozen_sub (h : Rel E N wk w0 Pr0 s m Pr a w) {k : Nat} {e : TypeId} {z n0 : Nat} {cs : List PV} (hk : s.σ k = some (.row e z n0 cs, true)) {g : Nat} (hg : home (m k) = some g) {off n c : Nat} (hn : n ≤ c) (hc : c ≤ maxLen) :
    Rep (rd w Pr) (.lst n ((cs.drop off).take (n * z))) (.slice (some ⟨g, off, none⟩) n c) := by
  obtain ⟨xs, ⟨hl, h1, hr⟩, hsh, hpr⟩ := h.blk k _ hk
  have hl : xs.length = cs.length := hl
  have hat : ∀ (j : Nat) x, ((xs.drop off).take (n * z))[j]? = some x → xs[off + j]? = some x := fun j x hx => by
    rw [List.getElem?_take] at hx
    split at hx
    · simpa using hx
    · cases hx
  refine .lst _ n c _ ((xs.drop off).take (n * z)) hn hc (by simp [hl]) (fun j x hx => h1 (off + j) x (hat j x hx)) (fun j x hx => ?_) (fun j q x hq hx => ?_)
  · rw [addr_add, rd_some]
    have hx' := hat j x hx
    have hlt := (List.getElem?_eq_some_iff.1 hx').1
    exact ⟨((hpr g hg).2 _).2 ⟨rfl, by show off + j < cs.length; omega⟩, hsh.cell hg _ x hx'⟩
  · rw [List.getElem?_take] at hq
    split at hq
    · exact hr (off + j) q x (by simpa [Bk.cells] using hq) (hat j x hx)
    · cases hq

theorem resSV_frz (σ : Nat → Option (Bk × Bool)) (fz : List Nat) (v : SV) : resSV (frzσ σ fz) v = resSV σ v := by
  cases v with
  | row k => simp only [resSV, frzσ]; split <;> simp [Function.comp_def]
  | ptr k o => simp only [resSV, frzσ]; split <;> simp [Function.comp_def]
  | sub k o n => simp only [resSV, frzσ]; split <;> simp [Function.comp_def]
  | _ => rfl

/-- What is handed over reads as it should, once it has been given away. -/
theorem Rel.close (h : Rel E N wk w0 Pr0 s m Pr a w) {fz : List Nat} {Pr' : Nat → Nat → Prop} (h' : Rel E N wk w0 Pr0 ⟨s.τ, frzσ s.σ fz⟩ m Pr' a w) (hP : ∀ b o, Pr b o → Pr' b o)
    {x : Operand} {r : RV} (hr : res E s.τ s.σ x = some r) {p : PV} {f : List Nat} (hc : close r = some (p, f)) (hf : ∀ k ∈ f, k ∈ fz) : Rep (rd w Pr') p (a.eval x) := by
  unfold res at hr
  cases hv : PG.opSV E s.τ x with
  | none => simp [hv] at hr
  | some v =>
    simp only [hv, Option.bind_some] at hr
    have hs := h.opSV hv
    cases v with
    | val q =>
      simp only [resSV, Option.some.injEq] at hr
      subst hr
      simp only [PG.close, Option.some.injEq, Prod.mk.injEq] at hc
      obtain ⟨rfl, _⟩ := hc
      exact Rep.mono (rd_mono hP) hs
    | nil =>
      simp only [resSV, Option.some.injEq] at hr
      subst hr
      simp only [PG.close, Option.some.injEq, Prod.mk.injEq] at hc
      obtain ⟨rfl, _⟩ := hc
      rw [show a.eval x = _ from hs]
      exact .nil
    | row k =>
      simp only [resSV, Option.map_eq_some_iff] at hr
      obtain ⟨⟨b, fl⟩, hk, rfl⟩ := hr
      cases b with
      | box cs => simp [PG.close] at hc
      | row e z n cs =>
        simp only [PG.close, Option.some.injEq, Prod.mk.injEq] at hc
        obtain ⟨rfl, rfl⟩ := hc
        have hk' : (⟨s.τ, frzσ s.σ fz⟩ : PS).σ k = some (.row e z n cs, true) := by
          simp [frzσ, hf k (by simp), hk]
        rw [show a.eval x = _ from hs]
        exact h'.frozen_row hk'
    | ptr k o =>
      simp only [resSV, Option.map_eq_some_iff] at hr
      obtain ⟨⟨b, fl⟩, hk, rfl⟩ := hr
      simp only [PG.close, Option.some.injEq, Prod.mk.injEq] at hc
      obtain ⟨rfl, rfl⟩ := hc
      have hk' : (⟨s.τ, frzσ s.σ fz⟩ : PS).σ k = some (b, true) := by
        simp [frzσ, hf k (by simp), hk]
      obtain ⟨g, hg, e⟩ := hs
      rw [e]
      exact h'.frozen_ptr hk' hg o
    | sub k o n =>
      simp only [resSV, Option.map_eq_some_iff] at hr
      obtain ⟨⟨b, fl⟩, hk, rfl⟩ := hr
      cases b with
      | box cs => simp [PG.close] at hc
      | row e z n0 cs =>
        simp only [PG.close] at hc
        split at hc
        · simp only [Option.some.injEq, Prod.mk.injEq] at hc
          obtain ⟨rfl, rfl⟩ := hc
          have hk' : (⟨s.τ, frzσ s.σ fz⟩ : PS).σ k = some (.row e z n0 cs, true) := by
            simp [frzσ, hf k (by simp), hk]
          obtain ⟨g, c, hg, ex, hn, hcm⟩ := hs
          rw [ex]
          exact h'.frozen_sub hk' hg hn hcm
        · cases hc
    | junk => simp [resSV] at hr

theorem Rel.closeL (h : Rel E N wk w0 Pr0 s m Pr a w) {fz : List Nat} {Pr' : Nat → Nat → Prop} (h' : Rel E N wk w0 Pr0 ⟨s.τ, frzσ s.σ fz⟩ m Pr' a w) (hP : ∀ b o, Pr b o → Pr' b o) :
    ∀ (l : List Operand) {ps : List PV} {f : List Nat}, PG.closeL (l.map (res E s.τ s.σ)) = some (ps, f) → (∀ k ∈ f, k ∈ fz) →
      ps.length = l.length ∧ ∀ (j : Nat) p x, ps[j]? = some p → l[j]? = some x → Rep (rd w Pr') p (a.eval x)
  | [], ps, f, hc, _ => by
    simp only [List.map_nil, PG.closeL, Option.some.injEq, Prod.mk.injEq] at hc
    obtain ⟨rfl, rfl⟩ := hc
    exact ⟨rfl, fun j p x hp _ => by simp at hp⟩
  | y :: l, ps, f, hc, hf => by
    simp only [List.map_cons] at hc
    cases hy : res E s.τ s.σ y with
    | none => simp [hy, PG.closeL] at hc
    | some r =>
      simp only [hy, PG.closeL] at hc
      split at hc
      · rename_i v f1 vs f2 h1 h2
        simp only [Option.some.injEq, Prod.mk.injEq] at hc
        obtain ⟨rfl, rfl⟩ := hc
        obtain ⟨hl, hr⟩ := h.closeL h' hP l h2 (fun k hk => hf k (by simp [hk]))
        refine ⟨by simp [hl], fun j p x hp hx => ?_⟩
        cases j with
        | zero =>
          simp only [List.getElem?_cons_zero, Option.some.injEq] at hp hx
          subst hp; subst hx
          exact h.close h' hP hy h1 (fun k hk => hf k (by simp [hk]))
        | succ j => exact hr j p x (by simpa using hp) (by simpa using hx)
      · cases hc
end
end PG
