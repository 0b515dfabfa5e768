/- THE PURE READING OF A GO FUNCTION, 4: a new block, a store, an append, a call: what they make of frame and world. -/
import Derived.Test.YtflpcgcgeffolaaDoorPgC
set_option linter.unusedVariables false
set_option linter.unusedSimpArgs false
namespace PG
open Go Go.RowKit

def updm (m : Nat → Value) (d : Nat) (v : Value) : Nat → Value := fun k => if k = d then v else m k

section
variable {E : PE} {N : Nat} {wk : Gh} {w0 : Fm} {Pr0 : Nat → Nat → Prop} {s : PS} {m : Nat → Value} {Pr : Nat → Nat → Prop} {a : Act} {w : World}

theorem BRep.keep {O : Nat → Prop} {w w' : World} {Pr Pr' : Nat → Nat → Prop} {v : Value} {b : Bk × Bool} (h : BRep O w Pr v b) (hle : ∀ a x, rd w Pr a = some x → rd w' Pr' a = some x)
    (hk : ∀ g, home v = some g → w'.heap[g]? = w.heap[g]?) (hp : ∀ g, home v = some g → ∀ o, Pr' g o ↔ Pr g o) : BRep O w' Pr' v b := by
  obtain ⟨xs, ha, hs, hpr⟩ := h
  exact ⟨xs, ha.mono hle, hs.keep hk, fun g hg => ⟨(hpr g hg).1, fun o => (hp g hg o).trans ((hpr g hg).2 o)⟩⟩

/-- So may a block be read of which others know, once the world has grown. -/
theorem BRep.wide {O O' : Nat → Prop} {w : World} {Pr : Nat → Nat → Prop} {v : Value} {b : Bk × Bool} (h : BRep O w Pr v b) (hO : ∀ g, home v = some g → O' g) : BRep O' w Pr v b := by
  obtain ⟨xs, ha, hs, hpr⟩ := h
  exact ⟨xs, ha, hs, fun g hg => ⟨hO g hg, (hpr g hg).2⟩⟩

/-- One block is new, or has turned. -/
theorem Rel.blkset0 (h : Rel E N wk w0 Pr0 s m Pr a w) (d : Nat) (b : Bk × Bool) (v : Value) (w' : World) (Pr' : Nat → Nat → Prop)
    (hpin : ∀ k, N ≤ k → updm m d v k = wk.m k) (hnm : ∀ t u, s.τ t = some u → u.key = some d → v = m d) (hbelow : Bel w0.O w w') (hko : KeepsOthers w w')
    (hP : ∀ g o, Pr g o → Pr' g o) (hP' : ∀ g o, Pr' g o → Pr g o ∨ home v = some g)
    (hle : ∀ a x, rd w Pr a = some x → rd w' Pr' a = some x) (hb : BRep w0.O w' Pr' v b)
    (hoth : ∀ k bk, k ≠ d → s.σ k = some bk → ∀ g, home (m k) = some g → w'.heap[g]? = w.heap[g]? ∧ home v ≠ some g) :
    Rel E N wk w0 Pr0 ⟨s.τ, updσ s.σ d (some b)⟩ (updm m d v) Pr' a w' := by
  have hg : ∀ g, home v = some g → w0.O g ∧ g < w'.heap.size := fun g hg => by
    obtain ⟨xs, _, hsh, hpr⟩ := hb
    exact ⟨(hpr g hg).1, hsh.lt hg⟩
  refine ⟨h.below.trans hbelow, dk_keep h.dfr hko, hpin, fun p x hx => hle _ _ (h.keep p x hx), h.sz, fun g o h0 => hP g o (h.pr0 g o h0), ?_, ?_, fun g cs hgl => (h.glob g cs hgl).mono hle, ?_, ?_, ?_⟩
  · intro g o hp
    rcases hP' g o hp with hp | hv
    · exact h.new g o hp
    · exact .inr (hg g hv).1
  · intro g o hp
    rcases hP' g o hp with hp | hv
    · exact Nat.lt_of_lt_of_le (h.bnd g o hp) hbelow.size
    · exact (hg g hv).2
  · intro t u hu
    obtain ⟨x, hx, hr⟩ := h.tmp t u hu
    refine ⟨x, hx, hr.mono hle fun k hk => ?_⟩
    unfold updm
    split
    · rename_i e; subst e; exact hnm t u hu hk
    · rfl
  · intro k bk hk
    simp only [updσ] at hk
    unfold updm
    by_cases hkd : k = d
    · simp only [hkd, if_true, Option.some.injEq] at hk ⊢
      subst hk; exact hb
    · simp only [hkd, if_false] at hk ⊢
      refine (h.blk k bk hk).keep hle (fun g hg => (hoth k bk hkd hk g hg).1) (fun g hg o => ⟨fun hp => ?_, hP g o⟩)
      rcases hP' g o hp with hp | hv
      · exact hp
      · exact absurd hv (hoth k bk hkd hk g hg).2
  · intro k k' b1 b2 h1 h2 hne g hg1 hg2
    simp only [updσ] at h1 h2
    unfold updm at hg1 hg2
    by_cases hk : k = d
    · have hk' : ¬ k' = d := fun e => hne (hk.trans e.symm)
      simp only [hk, if_true] at hg1
      simp only [hk', if_false] at h2 hg2
      exact (hoth k' b2 hk' h2 g hg2).2 hg1
    · simp only [hk, if_false] at h1 hg1
      by_cases hk' : k' = d
      · simp only [hk', if_true] at hg2
        exact (hoth k b1 hk h1 g hg1).2 hg2
      · simp only [hk', if_false] at h2 hg2
        exact h.sep k k' b1 b2 h1 h2 hne g hg1 hg2

theorem Rel.blkset (h : Rel E N wk w0 Pr0 s m Pr a w) (d : Nat) (b : Bk × Bool) (v : Value) (w' : World) (Pr' : Nat → Nat → Prop)
    (hdN : d < N) (hnm : ∀ t u, s.τ t = some u → u.key = some d → v = m d) (hbelow : Bel w0.O w w') (hko : KeepsOthers w w')
    (hP : ∀ g o, Pr g o → Pr' g o) (hP' : ∀ g o, Pr' g o → Pr g o ∨ home v = some g)
    (hle : ∀ a x, rd w Pr a = some x → rd w' Pr' a = some x) (hb : BRep w0.O w' Pr' v b)
    (hoth : ∀ k bk, k ≠ d → s.σ k = some bk → ∀ g, home (m k) = some g → w'.heap[g]? = w.heap[g]? ∧ home v ≠ some g) :
    Rel E N wk w0 Pr0 ⟨s.τ, updσ s.σ d (some b)⟩ (updm m d v) Pr' a w' :=
  h.blkset0 d b v w' Pr' (fun k hk => by
    unfold updm
    rw [if_neg (by omega)]
    exact h.pin k hk) hnm hbelow hko hP hP' hle hb hoth

/-- A new block. -/
theorem Rel.newBlk (h : Rel E N wk w0 Pr0 s m Pr a w) (d : Nat) (hdN : d < N) (b : Bk) (v : Value) (o : Obj) (xs : List Value) (hnm : ∀ t u, s.τ t = some u → u.key ≠ some d)
    (hv : home v = some w.heap.size) (ha : All2 (rd w Pr) b.cells xs) (hs : Shape (w.alloc o) v xs b) :
    Rel E N wk w0 Pr0 ⟨s.τ, updσ s.σ d (some (b, false))⟩ (updm m d v) Pr a (w.alloc o) := by
  have hle : ∀ a x, rd w Pr a = some x → rd (w.alloc o) Pr a = some x := rd_le fun a x hp hc => ⟨hp, by rw [World.cell?_alloc_lt w o a (h.bnd _ _ hp)]; exact hc⟩
  have htop : w0.O w.heap.size := w0.top _ h.below.size
  refine h.blkset d (b, false) v _ Pr hdN (fun t u hu hk => absurd hk (hnm t u hu)) ((Bel.refl _ _).alloc htop o) (KeepsOthers.alloc _ _) (fun _ _ h => h) (fun _ _ h => .inl h) hle ⟨xs, ha.mono hle, hs, fun g hg => ?_⟩ ?_
  · rw [hv] at hg
    cases hg
    refine ⟨htop, fun p => ?_⟩
    constructor
    · intro hp; exact absurd (h.bnd _ _ hp) (Nat.lt_irrefl _)
    · rintro ⟨h0, _⟩; cases h0
  · intro k bk _ hk g hg
    obtain ⟨ys, _, hsh, _⟩ := h.blk k bk hk
    have hlt := hsh.lt hg
    exact ⟨Below.heap_alloc w o g hlt, by rw [hv]; intro e; cases e; exact Nat.lt_irrefl _ hlt⟩

theorem setCells_nil (cs : List PV) (off : Nat) : setCells cs off [] = cs := rfl

theorem length_setCells : ∀ (vs cs : List PV) (off : Nat), (setCells cs off vs).length = cs.length
  | [], _, _ => rfl
  | v :: vs, cs, off => by simp only [setCells]; rw [length_setCells vs]; simp

theorem All2.set {g : Addr → Option Value} {cs : List PV} {xs : List Value} (h : All2 g cs xs) (j : Nat) {c : PV} {x : Value} (hr : Rep g c x) (h1 : x.oneCell' = true) : All2 g (cs.set j c) (xs.set j x) := by
  refine ⟨by simp [h.1], fun i y hy => ?_, fun i d y hd hy => ?_⟩
  · rw [List.getElem?_set] at hy
    split at hy
    · split at hy
      · cases hy; exact h1
      · cases hy
    · exact h.2.1 i y hy
  · rw [List.getElem?_set] at hy hd
    split at hy
    · rename_i hij
      simp only [hij, if_true] at hd
      split at hy
      · split at hd
        · cases hy; cases hd; exact hr
        · cases hd
      · cases hy
    · rename_i hij
      simp only [hij, if_false] at hd
      exact h.2.2 i d y hd hy

/-- A store of cells into a block of the call's own that nobody else reads. -/
theorem Shape.stored {w : World} {m : Value} {b : Bk} {xs : List Value} (h : Shape w m xs b) {g : Nat} (hg : home m = some g) (j : Nat) (u : Value) (cs' : List PV) :
    Shape (w.setCell ⟨g, j, none⟩ u) m (xs.set j u) (match b with | .box _ => .box cs' | .row e s n _ => .row e s n cs') := by
  cases b with
  | box cs =>
    obtain ⟨g', e, cur, rfl, hh, rfl⟩ := h
    simp only [home, Option.some.injEq] at hg; subst hg
    exact ⟨g', e, cur.setIfInBounds j u, rfl, heap_setCell_same w g' j cur e u hh, by simp⟩
  | row e s n cs =>
    simp only [Shape] at h ⊢
    have hform : ∃ cap, m = .slice (some ⟨g, 0, none⟩) n cap := by
      rcases h.2 with ⟨rfl, _⟩ | ⟨g', cap, cur, rfl, _⟩
      · simp [home] at hg
      · simp only [home, Option.some.injEq] at hg; subst hg; exact ⟨cap, rfl⟩
    obtain ⟨cap, rfl⟩ := hform
    exact (h.stored j u).1

theorem Bk.with_cells (b : Bk) (cs : List PV) : (b.with cs).cells = cs := by cases b <;> rfl
theorem Bk.with_with (b : Bk) (cs ds : List PV) : (b.with cs).with ds = b.with ds := by cases b <;> rfl
theorem Bk.with_self (b : Bk) : b.with b.cells = b := by cases b <;> rfl

theorem Rel.store1 (h : Rel E N wk w0 Pr0 s m Pr a w) {k : Nat} {b : Bk} (hk : s.σ k = some (b, false)) {g : Nat} (hg : home (m k) = some g) (j : Nat) {c : PV} {x : Value} (hr : Rep (rd w Pr) c x) (h1 : x.oneCell' = true) :
    Rel E N wk w0 Pr0 ⟨s.τ, updσ s.σ k (some (b.with (b.cells.set j c), false))⟩ m Pr a (w.setCell ⟨g, j, none⟩ x) := by
  obtain ⟨xs, ha, hsh, hpr⟩ := h.blk k _ hk
  have hfree : ∀ o, ¬ Pr g o := fun o hp => by have := ((hpr g hg).2 o).1 hp; cases this.1
  have hge : w0.O g := (hpr g hg).1
  have hle : ∀ a y, rd w Pr a = some y → rd (w.setCell ⟨g, j, none⟩ x) Pr a = some y := rd_le fun a y hp hc => ⟨hp, by
    rw [World.cell?_setCell_other]
    · exact hc
    · intro e; subst e; exact hfree _ hp⟩
  have hm : updm m k (m k) = m := by funext i; unfold updm; split <;> simp_all
  have := h.blkset0 k (b.with (b.cells.set j c), false) (m k) (w.setCell ⟨g, j, none⟩ x) Pr (fun i hi => by rw [hm]; exact h.pin i hi) (fun _ _ _ _ => rfl) ((Bel.refl _ _).setCell (p := ⟨g, j, none⟩) hge x) (KeepsOthers.setCell _ _ _) (fun _ _ h => h) (fun _ _ h => .inl h) hle
    ⟨xs.set j x, by rw [Bk.with_cells]; exact (ha.mono hle).set j (hr.mono hle) h1, by
        have := hsh.stored hg j x (b.cells.set j c)
        cases b <;> exact this, fun g' hg' => ⟨by rw [hg] at hg'; cases hg'; exact hge, fun o => by
        rw [hg] at hg'; cases hg'
        constructor
        · intro hp; exact absurd hp (hfree o)
        · rintro ⟨h0, _⟩; cases h0⟩⟩
    (fun i bi hi hbi g' hg' => ⟨heap_setCell_other w ⟨g, j, none⟩ g' x (fun e => h.sep k i _ _ hk hbi (fun e => hi e.symm) g hg (by rw [hg']; simpa using e)), fun e => h.sep k i _ _ hk hbi (fun e => hi e.symm) g' e hg'⟩)
  rw [hm] at this
  exact this

theorem updσ_updσ (σ : Nat → Option (Bk × Bool)) (k : Nat) (x y : Option (Bk × Bool)) : updσ (updσ σ k x) k y = updσ σ k y := by
  funext j; unfold updσ; split <;> rfl
theorem updσ_self (σ : Nat → Option (Bk × Bool)) (k : Nat) (x : Option (Bk × Bool)) (h : σ k = x) : updσ σ k x = σ := by
  funext j; unfold updσ; split
  · rename_i e; subst e; exact h.symm
  · rfl

/-- .. of as many cells as there are. -/
theorem Rel.storeN : ∀ (cs : List PV) (xs : List Value) (off i : Nat) {s : PS} {w : World} {b : Bk}, Rel E N wk w0 Pr0 s m Pr a w → ∀ {k : Nat}, s.σ k = some (b, false) → ∀ {g : Nat}, home (m k) = some g →
    All2 (rd w Pr) cs xs → off + i + cs.length ≤ b.cells.length →
    ∃ w', (storeCells ⟨g, off, none⟩ xs i).run E.P w = .ok () w' ∧ Rel E N wk w0 Pr0 ⟨s.τ, updσ s.σ k (some (b.with (setCells b.cells (off + i) cs), false))⟩ m Pr a w'
  | [], xs, off, i, s, w, b, h, k, hk, g, hg, ha, hle => by
    have hx : xs = [] := List.eq_nil_of_length_eq_zero (by simpa using ha.1)
    subst hx
    refine ⟨w, rfl, ?_⟩
    rw [setCells_nil, Bk.with_self, updσ_self _ _ _ hk]
    exact h
  | c :: cs, xs, off, i, s, w, b, h, k, hk, g, hg, ha, hle => by
    cases xs with
    | nil => have := ha.1; simp at this
    | cons x xs =>
      have hr := ha.2.2 0 c x rfl rfl
      have h1 := ha.2.1 0 x rfl
      obtain ⟨ys, hall, hsh, hpr⟩ := h.blk k _ hk
      obtain ⟨cur, e, hh, ht⟩ := hsh.at_ hg
      have hlt : off + i < ys.length := by
        have h2 : ys.length = b.cells.length := hall.1
        simp only [List.length_cons] at hle; omega
      have hcell := hsh.cell hg (off + i) _ (List.getElem?_eq_getElem hlt)
      have hst : (store ((⟨g, off, none⟩ : Addr).add i) x).run E.P w = .ok () (w.setCell ⟨g, off + i, none⟩ x) := by
        rw [addr_add, run_store E.P w _ x _ h1, hcell, frozen_of_row w g _ cur e hh]
        rfl
      have hs1 := h.store1 hk hg (off + i) hr h1
      have hfree : ∀ o, ¬ Pr g o := fun o hp => by have := ((hpr g hg).2 o).1 hp; cases this.1
      have hle' : ∀ a y, rd w Pr a = some y → rd (w.setCell ⟨g, off + i, none⟩ x) Pr a = some y := rd_le fun a y hp hc => ⟨hp, by
        rw [World.cell?_setCell_other]
        · exact hc
        · intro e; subst e; exact hfree _ hp⟩
      have hall' : All2 (rd (w.setCell ⟨g, off + i, none⟩ x) Pr) cs xs :=
        All2.mono hle' ⟨by simpa using ha.1, fun j y hy => ha.2.1 (j + 1) y (by simpa using hy), fun j d y hd hy => ha.2.2 (j + 1) d y (by simpa using hd) (by simpa using hy)⟩
      obtain ⟨w', hrun, hrel⟩ := Rel.storeN cs xs off (i + 1) hs1 (k := k) (b := b.with (b.cells.set (off + i) c)) (by simp [updσ]) hg hall' (by rw [Bk.with_cells]; simp only [List.length_cons, List.length_set] at hle ⊢; omega)
      refine ⟨w', ?_, ?_⟩
      · simp only [storeCells, Sem.run_bind, hst, Result.andThen_ok, hrun]
      · simp only [updσ_updσ, Bk.with_with, Bk.with_cells] at hrel
        simp only [setCells]
        rw [show off + i + 1 = off + (i + 1) by omega]
        exact hrel

/-- What a call may have made. -/
theorem Rel.called (h : Rel E N wk w0 Pr0 s m Pr a w) {w' : World} (hb : Below w.heap.size w w') :
    Rel E N wk w0 Pr0 s m (fun g o => Pr g o ∨ (w.heap.size ≤ g ∧ g < w'.heap.size)) a w' := by
  have hle : ∀ a x, rd w Pr a = some x → rd w' (fun g o => Pr g o ∨ (w.heap.size ≤ g ∧ g < w'.heap.size)) a = some x :=
    rd_le fun a x hp hc => ⟨.inl hp, by rw [hb.cell (h.bnd _ _ hp)]; exact hc⟩
  have htop : ∀ k, w.heap.size ≤ k → w0.O k := fun k hk => w0.top k (Nat.le_trans h.below.size hk)
  refine ⟨h.below.trans (Bel.of_below hb htop), dk_keep h.dfr (keeps_below hb), h.pin, fun p x hx => hle _ _ (h.keep p x hx), h.sz, fun g o h0 => .inl (h.pr0 g o h0), ?_, ?_, fun g cs hg => (h.glob g cs hg).mono hle, ?_, ?_, h.sep⟩
  · rintro g o (hp | ⟨hge, _⟩)
    · exact h.new g o hp
    · exact .inr (htop g hge)
  · rintro g o (hp | ⟨_, hlt⟩)
    · exact Nat.lt_of_lt_of_le (h.bnd g o hp) hb.size
    · exact hlt
  · intro t v hv
    obtain ⟨x, hx, hr⟩ := h.tmp t v hv
    exact ⟨x, hx, hr.mono hle fun _ _ => rfl⟩
  · intro k b hk
    obtain ⟨xs, ha, hsh, hpr⟩ := h.blk k b hk
    refine BRep.keep ⟨xs, ha, hsh, hpr⟩ hle (fun g hg => hb.block g (hsh.lt hg)) (fun g hg o => ⟨?_, .inl⟩)
    rintro (hp | ⟨hge, _⟩)
    · exact hp
    · exact absurd (hsh.lt hg) (Nat.not_lt.2 hge)

/-- What a function's call comes to: value or way in, old memory as it was. -/
def Post (w : World) (Pr : Nat → Nat → Prop) (r : PV) (v : Value) (w' : World) : Prop :=
  Rep (rd w' (fun g o => Pr g o ∨ w.heap.size ≤ g)) r v ∧ Below w.heap.size w w'

/-- THE CONTRACT: called with values that read as 'args' the function hands back a value that reads as 'r'; nothing that was there is changed. -/
def PC (E : PE) (f : FuncId) (args : List PV) (r : PV) : Prop :=
  ∀ (w : World) (Pr : Nat → Nat → Prop) (vs : Array Value), (∀ g o, Pr g o → g < w.heap.size) → (∀ g cs, E.G g = some cs → Rep (rd w Pr) (.ref cs) (.pointer (some ⟨g, 0, none⟩))) →
    vs.size = args.length → (∀ (j : Nat) p v, args[j]? = some p → vs[j]? = some v → Rep (rd w Pr) p v) →
    match (callFunc f vs).run E.P w with
    | .ok (.value v) w' => Post w Pr r v w'
    | .ok (.enter f' vs') w' => w' = w ∧ Calls E.P f' vs' w (fun e w'' => ∃ v, e = .returned v ∧ Post w Pr r v w'')
    | _ => False

/-! ### Functions that write what they are handed -/
/-- The blocks that such a call may write: the new ones, and those handed over. -/
def OwnM (w : World) (mv : Nat → Value) (nb : Nat) : Nat → Prop := fun g => w.heap.size ≤ g ∨ ∃ i, i < nb ∧ home (mv i) = some g

/-- What such a call comes to: 'bs'' is what the blocks handed over hold behind it (and one more, if it hands a new one back). -/
def PostM (w : World) (Pr : Nat → Nat → Prop) (mv : Nat → Value) (nb : Nat) (r : SV) (bs' : List Bk) (v : Value) (w' : World) : Prop :=
  ∃ (mv' : Nat → Value) (Pr' : Nat → Nat → Prop), (∀ i, i < nb → mv' i = mv i) ∧ Bel (OwnM w mv nb) w w' ∧ KeepsOthers w w' ∧ (∀ g o, Pr g o → Pr' g o) ∧ (∀ g o, Pr' g o → Pr g o ∨ w.heap.size ≤ g) ∧
    (∀ g o, Pr' g o → g < w'.heap.size) ∧ (∀ p x, rd w Pr p = some x → rd w' Pr' p = some x) ∧
    (∀ i b, bs'[i]? = some b → BRep (OwnM w mv nb) w' Pr' (mv' i) (b, false)) ∧
    (∀ i j b c, bs'[i]? = some b → bs'[j]? = some c → i ≠ j → ∀ g, home (mv' i) = some g → home (mv' j) ≠ some g) ∧
    (∀ i, nb ≤ i → ∀ g, home (mv' i) = some g → w.heap.size ≤ g) ∧ SRep (rd w' Pr') mv' r v

/-- THE CONTRACT OF A FUNCTION THAT WRITES WHAT IT IS HANDED: the blocks 'bs' are handed over (an argument's handle names a block by its place on that list). -/
def PCM (E : PE) (f : FuncId) (args : List SV) (bs : List Bk) (r : SV) (bs' : List Bk) : Prop :=
  bs.length ≤ bs'.length ∧ bs'.length ≤ bs.length + 1 ∧ (∀ k, r.key = some k → k = bs.length ∧ bs'.length = bs.length + 1) ∧ r ≠ .junk ∧
  ∀ (w : World) (Pr : Nat → Nat → Prop) (mv : Nat → Value) (vs : Array Value), (∀ g o, Pr g o → g < w.heap.size) → (∀ g cs, E.G g = some cs → Rep (rd w Pr) (.ref cs) (.pointer (some ⟨g, 0, none⟩))) →
    (∀ i b, bs[i]? = some b → BRep (fun _ => True) w Pr (mv i) (b, false)) →
    (∀ i j b c, bs[i]? = some b → bs[j]? = some c → i ≠ j → ∀ g, home (mv i) = some g → home (mv j) ≠ some g) →
    vs.size = args.length → (∀ (j : Nat) u v, args[j]? = some u → vs[j]? = some v → SRep (rd w Pr) mv u v) →
    match (callFunc f vs).run E.P w with
    | .ok (.enter f' vs') w' => w' = w ∧ Calls E.P f' vs' w (fun e w'' => ∃ v, e = .returned v ∧ PostM w Pr mv bs.length r bs' v w'')
    | _ => False

/-- A handle by its place on the list, told by the block's own number. -/
def ren (ks : List Nat) : SV → SV
  | .row k => .row (ks.getD k 0)
  | .ptr k o => .ptr (ks.getD k 0) o
  | .sub k o n => .sub (ks.getD k 0) o n
  | v => v

/-- So many blocks hold something else. -/
def ovr (σ : Nat → Option (Bk × Bool)) : List (Nat × (Bk × Bool)) → Nat → Option (Bk × Bool)
  | [] => σ
  | (k, b) :: l => updσ (ovr σ l) k (some b)

theorem SRep.ren {g : Addr → Option Value} {m mv : Nat → Value} {ks : List Nat} (hm : ∀ i, mv i = m (ks.getD i 0)) {u : SV} {x : Value} : SRep g m (PG.ren ks u) x ↔ SRep g mv u x := by
  cases u <;> simp only [PG.ren, SRep, hm]

theorem Rel.post (h : Rel E N wk w0 Pr0 s m Pr a w) {r : PV} {v : Value} {w' : World} (hp : Post w Pr r v w') :
    ∃ Pr', Rel E N wk w0 Pr0 s m Pr' a w' ∧ Rep (rd w' Pr') r v := by
  refine ⟨_, h.called hp.2, hp.1.mono (rd_le fun a x hpr hc => ⟨?_, hc⟩)⟩
  rcases hpr with hpr | hge
  · exact .inl hpr
  · exact .inr ⟨hge, World.block_lt_of_cell? _ _ hc⟩
end
end PG
