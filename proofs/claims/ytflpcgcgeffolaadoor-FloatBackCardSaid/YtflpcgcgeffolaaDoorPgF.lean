/- THE PURE READING OF A GO FUNCTION, 6: the operations that look at blocks do what the pure step says. -/
import Derived.Test.YtflpcgcgeffolaaDoorPgE
set_option linter.unusedVariables false
set_option linter.unusedSimpArgs false
namespace PG
open Go Go.RowKit

def isNew : Op → Bool
  | .alloc _ | .box .. | .buildSlice .. | .makeSlice .. => true
  | _ => false

def newSV (d : Nat) : Bk → SV
  | .box _ => .ptr d 0
  | .row .. => .row d

def eraseσ (σ : Nat → Option (Bk × Bool)) (k : Option Nat) : Nat → Option (Bk × Bool) :=
  match k with
  | some k => updσ σ k none
  | none => σ

/-- What an outcome makes of the pure state. -/
def Appl (E : PE) (s : PS) (dst : Option Tmp) (fz : List Nat) : Out → PS → Prop
  | .val v, s' => s' = ⟨putτ s.τ dst v, frzσ s.σ fz⟩
  | .new b, s' => ∃ d, dst = some d ∧ s' = ⟨putτ s.τ dst (newSV d b), updσ (frzσ s.σ fz) d (some (b, false))⟩
  | .st k b, s' => (∃ b0, s.σ k = some (b0, false)) ∧ k ∉ fz ∧ s' = ⟨putτ s.τ dst .junk, updσ (frzσ s.σ fz) k (some (b, false))⟩
  | .app k b, s' => ∃ d, dst = some d ∧ (∀ j, k = some j → (∃ b0, s.σ j = some (b0, false)) ∧ j ∉ fz) ∧
      s' = ⟨putτ (killτ s.τ [d]) dst (.row d), updσ (eraseσ (frzσ s.σ fz) k) d (some (b, false))⟩
  | .call f args, s' => ∃ r, PC E f args r ∧ s' = ⟨putτ s.τ dst (.val r), frzσ s.σ fz⟩
  | .inl f args, s' => ∃ (ks : List Nat) (cargs : List SV) (bs bs' : List Bk) (r : SV), PCM E f cargs bs r bs' ∧ fz = [] ∧ args = cargs.map (ren ks) ∧ ks.Nodup ∧ ks.length = bs.length ∧
      (∀ (i : Nat) (b : Bk) (k : Nat), bs[i]? = some b → ks[i]? = some k → s.σ k = some (b, false)) ∧
      (∀ d, dst = some d → d ∉ ks) ∧ (dst = none → bs'.length = bs.length) ∧
      s' = ⟨putτ (killτ s.τ dst.toList) dst (ren (ks ++ dst.toList) r), ovr (eraseσ s.σ dst) ((ks ++ dst.toList).zip (bs'.map fun b => (b, false)))⟩

section
variable {E : PE} {N : Nat} {wk : Gh} {w0 : Fm} {Pr0 : Nat → Nat → Prop} {s : PS} {m : Nat → Value} {Pr : Nat → Nat → Prop} {a : Act} {w : World}

theorem rvPV_some {σ : Nat → Option (Bk × Bool)} {τ : Nat → Option SV} {x : Operand} {p : PV} (h : rvPV (res E τ σ x) = some p) : opSV E τ x = some (.val p) := by
  unfold res at h
  cases hv : opSV E τ x with
  | none => simp [hv, rvPV] at h
  | some v =>
    cases v with
    | val q => simp [hv, resSV, rvPV] at h; rw [h]
    | nil => simp [hv, resSV, rvPV] at h
    | row k => cases hk : σ k <;> simp [hv, resSV, rvPV, hk] at h
    | ptr k o => cases hk : σ k <;> simp [hv, resSV, rvPV, hk] at h
    | sub k o n => cases hk : σ k <;> simp [hv, resSV, rvPV, hk] at h
    | junk => simp [hv, resSV, rvPV] at h

theorem res_val {σ : Nat → Option (Bk × Bool)} {τ : Nat → Option SV} {x : Operand} {p : PV} (h : res E τ σ x = some (.val p)) : opSV E τ x = some (.val p) := rvPV_some (by rw [h]; rfl)

theorem res_nil {σ : Nat → Option (Bk × Bool)} {τ : Nat → Option SV} {x : Operand} (h : res E τ σ x = some .nil) : opSV E τ x = some .nil := by
  unfold res at h
  cases hv : opSV E τ x with
  | none => simp [hv] at h
  | some v =>
    cases v with
    | val q => simp [hv, resSV] at h
    | nil => rfl
    | row k => cases hk : σ k <;> simp [hv, resSV, hk] at h
    | ptr k o => cases hk : σ k <;> simp [hv, resSV, hk] at h
    | sub k o n => cases hk : σ k <;> simp [hv, resSV, hk] at h
    | junk => simp [hv, resSV] at h

theorem res_row {σ : Nat → Option (Bk × Bool)} {τ : Nat → Option SV} {x : Operand} {k : Nat} {b : Bk} (h : res E τ σ x = some (.row k b)) : opSV E τ x = some (.row k) ∧ ∃ fl, σ k = some (b, fl) := by
  unfold res at h
  cases hv : opSV E τ x with
  | none => simp [hv] at h
  | some v =>
    cases v with
    | val q => simp [hv, resSV] at h
    | nil => simp [hv, resSV] at h
    | row j =>
      cases hk : σ j with
      | none => simp [hv, resSV, hk] at h
      | some bf => simp [hv, resSV, hk] at h; obtain ⟨rfl, rfl⟩ := h; exact ⟨rfl, bf.2, hk⟩
    | ptr j o => cases hk : σ j <;> simp [hv, resSV, hk] at h
    | sub j o n => cases hk : σ j <;> simp [hv, resSV, hk] at h
    | junk => simp [hv, resSV] at h

theorem res_ptr {σ : Nat → Option (Bk × Bool)} {τ : Nat → Option SV} {x : Operand} {k off : Nat} {b : Bk} (h : res E τ σ x = some (.ptr k off b)) : opSV E τ x = some (.ptr k off) ∧ ∃ fl, σ k = some (b, fl) := by
  unfold res at h
  cases hv : opSV E τ x with
  | none => simp [hv] at h
  | some v =>
    cases v with
    | val q => simp [hv, resSV] at h
    | nil => simp [hv, resSV] at h
    | row j => cases hk : σ j <;> simp [hv, resSV, hk] at h
    | ptr j o =>
      cases hk : σ j with
      | none => simp [hv, resSV, hk] at h
      | some bf => simp [hv, resSV, hk] at h; obtain ⟨rfl, rfl, rfl⟩ := h; exact ⟨rfl, bf.2, hk⟩
    | sub j o n => cases hk : σ j <;> simp [hv, resSV, hk] at h
    | junk => simp [hv, resSV] at h

theorem res_sub {σ : Nat → Option (Bk × Bool)} {τ : Nat → Option SV} {x : Operand} {k off n : Nat} {b : Bk} (h : res E τ σ x = some (.sub k off n b)) : opSV E τ x = some (.sub k off n) ∧ ∃ fl, σ k = some (b, fl) := by
  unfold res at h
  cases hv : opSV E τ x with
  | none => simp [hv] at h
  | some v =>
    cases v with
    | val q => simp [hv, resSV] at h
    | nil => simp [hv, resSV] at h
    | row j => cases hk : σ j <;> simp [hv, resSV, hk] at h
    | ptr j o => cases hk : σ j <;> simp [hv, resSV, hk] at h
    | sub j o n =>
      cases hk : σ j with
      | none => simp [hv, resSV, hk] at h
      | some bf => simp [hv, resSV, hk] at h; obtain ⟨rfl, rfl, rfl, rfl⟩ := h; exact ⟨rfl, bf.2, hk⟩
    | junk => simp [hv, resSV] at h

theorem res_sv {σ : Nat → Option (Bk × Bool)} {τ : Nat → Option SV} {x : Operand} {r : RV} (h : res E τ σ x = some r) : opSV E τ x = some r.sv := by
  cases r with
  | val v => exact res_val h
  | nil => exact res_nil h
  | row k b => exact (res_row h).1
  | ptr k o b => exact (res_ptr h).1
  | sub k o n b => exact (res_sub h).1

theorem Rel.rvInt (h : Rel E N wk w0 Pr0 s m Pr a w) {x : Operand} {n : Int} (hv : PG.rvInt (res E s.τ s.σ x) = some n) : ∃ k, a.eval x = .int k n := by
  unfold PG.rvInt at hv
  split at hv
  · rename_i k n' hr
    cases hv
    exact ⟨k, (h.opSV (res_val hr) : Rep _ _ _).int_inv⟩
  · cases hv

/-- A slice of whatever kind reads as its cells, once it has been given away. -/
theorem Rel.rvSlice (h : Rel E N wk w0 Pr0 s m Pr a w) {fz : List Nat} {Pr' : Nat → Nat → Prop} (h' : Rel E N wk w0 Pr0 ⟨s.τ, frzσ s.σ fz⟩ m Pr' a w) (hP : ∀ b o, Pr b o → Pr' b o)
    {x : Operand} {n : Nat} {cs : List PV} (hv : PG.rvSlice (res E s.τ s.σ x) = some (n, cs)) (hf : ∀ k ∈ frzOf (res E s.τ s.σ x), k ∈ fz) : Rep (rd w Pr') (.lst n cs) (a.eval x) := by
  unfold PG.rvSlice at hv
  split at hv
  · rename_i n' cs' hr
    cases hv
    exact Rep.mono (rd_mono hP) (h.opSV (res_val hr))
  · rename_i n' cs' hr
    cases hv
    have h1 := Rep.mono (rd_mono hP) (h.opSV (res_val hr) : Rep _ _ _)
    generalize a.eval x = z at h1
    cases h1 with
    | nn ad _ cap _ hh => exact hh
  · rename_i hr
    cases hv
    rw [show a.eval x = _ from h.opSV (res_nil hr)]
    exact .nil
  · rename_i k e z n' cs' hr
    cases hv
    exact h.close h' hP hr rfl (fun j hj => hf j (by rw [hr]; exact hj))
  · rename_i k o n' e z n0 cs' hr
    split at hv
    · rename_i hle
      cases hv
      exact h.close h' hP hr (by simp only [PG.close]; rw [if_pos hle]) (fun j hj => hf j (by rw [hr]; exact hj))
    · cases hv
  · cases hv

theorem val_step (h : Rel E N wk w0 Pr0 s m Pr a w) {o : Oper} {K : Act → World → Prop} {Q : Exit → Act → World → Prop} {v : SV} {x : Value} (hd : ∀ d, o.dst = some d → d < N)
    (hrun : (execOp a.eval o).run E.P w = .ok (.value x) w) (hv : SRep (rd w Pr) m v x)
    (hK : ∀ m' Pr' a' w', Rel E N wk w0 Pr0 ⟨putτ s.τ o.dst v, s.σ⟩ m' Pr' a' w' → K a' w') : o.wp E.P a w K Q := by
  unfold Oper.wp
  rw [hrun]
  exact hK _ _ _ _ (h.put o.dst hd hv)

theorem new_step (h : Rel E N wk w0 Pr0 s m Pr a w) {o : Oper} {K : Act → World → Prop} {Q : Exit → Act → World → Prop} {d : Nat} (hdst : o.dst = some d) (hd : d < N)
    {b : Bk} {x : Value} {ob : Obj} {xs : List Value} (hnm : ∀ t u, s.τ t = some u → u.key ≠ some d)
    (hrun : (execOp a.eval o).run E.P w = .ok (.value x) (w.alloc ob)) (hx : home x = some w.heap.size) (hp : ∀ cs, b = .box cs → x = .pointer (some ⟨w.heap.size, 0, none⟩))
    (ha : All2 (rd w Pr) b.cells xs) (hs : Shape (w.alloc ob) x xs b)
    (hK : ∀ m' Pr' a' w', Rel E N wk w0 Pr0 ⟨putτ s.τ o.dst (newSV d b), updσ s.σ d (some (b, false))⟩ m' Pr' a' w' → K a' w') : o.wp E.P a w K Q := by
  unfold Oper.wp
  rw [hrun]
  have h1 := h.newBlk d hd b x ob xs hnm hx ha hs
  refine hK _ _ _ _ (h1.put o.dst (fun e he => by rw [hdst] at he; cases he; exact hd) ?_)
  cases b with
  | box cs => exact ⟨w.heap.size, by simp [updm, hx], hp cs rfl⟩
  | row e z n cs => simp [newSV, SRep, updm]

theorem run_append_of_nil {P : Program} (w : World) (base : Nat) (t ty e : TypeId) (i : TypeInfo) (size : Nat) (ht : P.underlying t = some (.slice e)) (hi : P.info? e = some i)
    (v : Value) (n : Nat) (xs : List Value) (hown : w.ownsRow base e size v n xs) (c : Nat) : (Builtin.append_ #[t, t] ty #[v, .slice none 0 c]).run P w = .ok v w := by
  rcases hown.2 with ⟨rfl, rfl⟩ | ⟨g, cap, cur, rfl, _, _, hnc, _⟩
  · simp [Builtin.append_, run_underlying ht, Go.sizeOf, typeInfo, hi, Builtin.lenOf, Builtin.firstCells]
  · simp [Builtin.append_, run_underlying ht, Go.sizeOf, typeInfo, hi, Builtin.lenOf, Builtin.firstCells, hnc, storeCells]

/-- append onto a row of the call's own: what comes back owns both. -/
theorem run_append_rep {P : Program} (w : World) (base : Nat) (t ty e : TypeId) (i : TypeInfo) (z : Value) (ht : P.underlying t = some (.slice e)) (hi : P.info? e = some i) (hz : i.zero = some z)
    (hzs : z.cells.size = i.size) (hsz : 0 < i.size) (v : Value) (n : Nat) (xs : List Value) (hown : w.ownsRow base e i.size v n xs)
    {Pr : Nat → Nat → Prop} {n' : Nat} {ys : List PV} {y : Value} (hy : Rep (rd w Pr) (.lst n' ys) y) (hl : ys.length = n' * i.size)
    (h63 : n + n' ≤ maxLen) (hbytes : (n + n') * i.bytes ≤ 140737488355328) (hbase : base ≤ w.heap.size) :
    ∃ v' w' us, (Builtin.append_ #[t, t] ty #[v, y]).run P w = .ok v' w' ∧ All2 (rd w Pr) ys us ∧ w'.ownsRow base e i.size v' (n + n') (xs ++ us) ∧ w.grownBy w' v.ownBlock ∧
      (v'.ownBlock = v.ownBlock ∨ v'.ownBlock = some w.heap.size) := by
  rcases hy.lst_inv with ⟨rfl, rfl, rfl⟩ | ⟨ad, cap, us, rfl, hnc, hc, hall, hm⟩
  · exact ⟨v, w, [], run_append_of_nil w base t ty e i i.size ht hi v n xs hown 0, All2.nil, by simpa using hown, World.grownBy.refl w _, .inl rfl⟩
  · obtain ⟨v', w', hrun, h2, h3, _, h5⟩ := run_append_own_at (P := P) w base t ty e i z i.size i.bytes ht hi hz rfl rfl hzs hsz v n xs hown ad n' cap us (by rw [hall.1, hl])
      (fun j u hu => (rd_some.1 (hm j u hu)).2) (fun u hu => by obtain ⟨j, hj⟩ := List.getElem?_of_mem hu; exact hall.2.1 j u hj) h63 hbytes hbase
    exact ⟨v', w', us, hrun, hall, h2, h3, h5⟩

theorem All2.append {g : Addr → Option Value} {cs ds : List PV} {xs ys : List Value} (h : All2 g cs xs) (k : All2 g ds ys) : All2 g (cs ++ ds) (xs ++ ys) := by
  refine ⟨by simp [h.1, k.1], fun j x hx => ?_, fun j c x hc hx => ?_⟩
  · rw [List.getElem?_append] at hx
    split at hx
    · exact h.2.1 j x hx
    · exact k.2.1 _ x hx
  · rw [List.getElem?_append] at hx hc
    rw [← h.1] at hc
    split at hx
    · rename_i hlt; simp only [hlt, if_true] at hc; exact h.2.2 j c x hc hx
    · rename_i hlt; simp only [hlt, if_false] at hc; exact k.2.2 _ c x hc hx

theorem ownsRow_home {w : World} {base : Nat} {e : TypeId} {size : Nat} {v : Value} {n : Nat} {xs : List Value} (h : w.ownsRow base e size v n xs) : home v = v.ownBlock := by
  rcases h.2 with ⟨rfl, _⟩ | ⟨g, cap, cur, rfl, _⟩ <;> rfl

theorem Rel.kill (h : Rel E N wk w0 Pr0 s m Pr a w) (ks : List Nat) : Rel E N wk w0 Pr0 ⟨killτ s.τ ks, s.σ⟩ m Pr a w := by
  refine ⟨h.below, h.dfr, h.pin, h.keep, h.sz, h.pr0, h.new, h.bnd, h.glob, fun t v hv => ?_, h.blk, h.sep⟩
  simp only [killτ] at hv
  split at hv
  · rename_i u hu
    obtain ⟨x, hx, hr⟩ := h.tmp t u hu
    refine ⟨x, hx, ?_⟩
    split at hv
    · split at hv
      · cases hv; trivial
      · cases hv; exact hr
    · cases hv; exact hr
  · cases hv

theorem killτ_key {τ : Nat → Option SV} {ks : List Nat} {t : Nat} {v : SV} (h : killτ τ ks t = some v) : ∀ k ∈ ks, v.key ≠ some k := by
  intro k hk
  unfold killτ at h
  split at h
  · split at h
    · rename_i j hj
      split at h
      · cases h; intro e; cases e
      · rename_i hn; cases h; rw [hj]; intro e; cases e; exact hn hk
    · rename_i hj; cases h; rw [hj]; intro e; cases e
  · cases h

theorem Rel.erase (h : Rel E N wk w0 Pr0 s m Pr a w) (k : Option Nat) : Rel E N wk w0 Pr0 ⟨s.τ, eraseσ s.σ k⟩ m Pr a w := by
  cases k with
  | none => exact h
  | some k =>
    refine ⟨h.below, h.dfr, h.pin, h.keep, h.sz, h.pr0, h.new, h.bnd, h.glob, h.tmp, fun j b hj => ?_, fun j j' b b' hj hj' => ?_⟩
    · simp only [eraseσ, updσ] at hj
      split at hj
      · cases hj
      · exact h.blk j b hj
    · simp only [eraseσ, updσ] at hj hj'
      split at hj
      · cases hj
      · split at hj'
        · cases hj'
        · exact h.sep j j' b b' hj hj'

theorem app_step (h : Rel E N wk w0 Pr0 s m Pr a w) {o : Oper} {K : Act → World → Prop} {Q : Exit → Act → World → Prop} {d : Nat} (hdst : o.dst = some d) (hd : d < N)
    {k : Option Nat} {e : TypeId} {i : TypeInfo} {v v' : Value} {w' : World} {xs us : List Value} {cs ys : List PV} {n n' : Nat}
    (hk : match k with | some j => v = m j ∧ s.σ j = some (.row e i.size n cs, false) | none => v = .slice none 0 0 ∧ cs = [] ∧ n = 0)
    (hxs : All2 (rd w Pr) cs xs) (hus : All2 (rd w Pr) ys us) (hown : w'.ownsRow 0 e i.size v' (n + n') (xs ++ us)) (hgrow : w.grownBy w' v.ownBlock)
    (hat : v'.ownBlock = v.ownBlock ∨ v'.ownBlock = some w.heap.size) (hvo : home v = v.ownBlock)
    (hrun : (execOp a.eval o).run E.P w = .ok (.value v') w')
    (hK : ∀ m' Pr' a' w', Rel E N wk w0 Pr0 ⟨putτ (killτ s.τ [d]) o.dst (.row d), updσ (eraseσ s.σ k) d (some (.row e i.size (n + n') (cs ++ ys), false))⟩ m' Pr' a' w' → K a' w') :
    o.wp E.P a w K Q := by
  have htop : ∀ k, w.heap.size ≤ k → w0.O k := fun k hk => w0.top k (Nat.le_trans h.below.size hk)
  have hfree : ∀ g, home v = some g → (∀ p, ¬ Pr g p) ∧ w0.O g := by
    intro g hg
    cases k with
    | none => obtain ⟨rfl, _⟩ := hk; simp [home] at hg
    | some j =>
      obtain ⟨rfl, hj⟩ := hk
      obtain ⟨ys, _, hsh, hpr⟩ := h.blk j _ hj
      exact ⟨(fun p hp => by have := ((hpr g hg).2 p).1 hp; cases this.1), (hpr g hg).1⟩
  have hle : ∀ a x, rd w Pr a = some x → rd w' Pr a = some x := rd_le fun a x hp hc => ⟨hp, by
    rw [World.cell?_of_block (hgrow.block a.block (h.bnd _ _ hp) (fun he => ?_))]
    · exact hc
    · rw [← hvo] at he
      exact (hfree _ he.symm).1 _ hp⟩
  have hv'o := ownsRow_home hown
  have hnew : ∀ g, home v' = some g → ∀ p, ¬ Pr g p := by
    intro g hg p hp
    rw [hv'o] at hg
    rcases hat with e1 | e1
    · rw [e1, ← hvo] at hg; exact (hfree g hg).1 p hp
    · rw [e1] at hg; cases hg; exact Nat.lt_irrefl _ (h.bnd _ _ hp)
  have hbelow : Bel w0.O w w' := (Bel.refl _ _).grown hgrow htop (fun g hg => (hfree g (by rw [hvo]; exact hg)).2)
  have hO' : ∀ g, home v' = some g → w0.O g := fun g hg => by
    rw [hv'o] at hg
    rcases hat with e1 | e1
    · rw [e1, ← hvo] at hg; exact (hfree g hg).2
    · rw [e1] at hg; cases hg; exact htop _ (Nat.le_refl _)
  have hko : KeepsOthers w w' := KeepsOthers.of_grownBy hgrow fun j o hj ho => by
    rw [← hvo] at hj
    cases k with
    | none => obtain ⟨rfl, _⟩ := hk; simp [home] at hj
    | some kk =>
      obtain ⟨rfl, hkk⟩ := hk
      obtain ⟨zs, _, hsh, _⟩ := h.blk kk _ hkk
      obtain ⟨cur, e', hh, _⟩ := hsh.at_ hj
      rw [hh] at ho
      cases ho
      rfl
  have h1 := (h.kill [d]).erase k
  have h2 := h1.blkset d (.row e i.size (n + n') (cs ++ ys), false) v' w' Pr hd (fun t u hu hkey => absurd hkey (killτ_key hu d (by simp))) hbelow hko (fun _ _ h => h) (fun _ _ h => .inl h) hle
    ⟨xs ++ us, (hxs.append hus).mono hle, hown, fun g hg => ⟨hO' g hg, fun p => ⟨fun hp => absurd hp (hnew g hg p), (fun hp => by cases hp.1)⟩⟩⟩ (by
      intro j bj hjd hj g hg
      simp only at hj
      have hσ : s.σ j = some bj ∧ k ≠ some j := by
        cases k with
        | none => exact ⟨hj, by simp⟩
        | some kk =>
          simp only [eraseσ, updσ] at hj
          split at hj
          · cases hj
          · rename_i hne; exact ⟨hj, by intro e; cases e; exact hne rfl⟩
      obtain ⟨zs, _, hsh, _⟩ := h.blk j _ hσ.1
      have hlt := hsh.lt hg
      have hne : home v ≠ some g := by
        cases k with
        | none => obtain ⟨rfl, _⟩ := hk; simp [home]
        | some kk =>
          obtain ⟨rfl, hkk⟩ := hk
          intro e1
          exact h.sep kk j _ _ hkk hσ.1 (fun e2 => hσ.2 (by rw [e2])) g e1 hg
      refine ⟨hgrow.block g hlt (fun e1 => hne (by rw [hvo]; exact e1.symm)), fun e1 => ?_⟩
      rw [hv'o] at e1
      rcases hat with e2 | e2
      · rw [e2, ← hvo] at e1; exact hne e1
      · rw [e2] at e1; cases e1; exact Nat.lt_irrefl _ hlt)
  unfold Oper.wp
  rw [hrun]
  refine hK _ _ _ _ (h2.put o.dst (fun e he => by rw [hdst] at he; cases he; exact hd) ?_)
  simp [SRep, updm]

theorem ovr_cases {σ : Nat → Option (Bk × Bool)} {k : Nat} {b : Bk × Bool} : ∀ {l : List (Nat × (Bk × Bool))}, ovr σ l k = some b → (∃ i : Nat, l[i]? = some (k, b)) ∨ ((∀ p ∈ l, p.1 ≠ k) ∧ σ k = some b)
  | [], h => .inr ⟨(fun p hp => by cases hp), h⟩
  | (j, c) :: l, h => by
    simp only [ovr, updσ] at h
    split at h
    · rename_i e; cases h; exact .inl ⟨0, by rw [e]; rfl⟩
    · rename_i hne
      rcases ovr_cases h with ⟨i, hi⟩ | ⟨h1, h2⟩
      · exact .inl ⟨i + 1, by simpa using hi⟩
      · refine .inr ⟨fun p hp => ?_, h2⟩
        rcases List.mem_cons.1 hp with rfl | hp
        · exact fun e => hne e.symm
        · exact h1 p hp

/-- Behind a call that wrote what it was handed. -/
theorem Rel.inl (h : Rel E N wk w0 Pr0 s m Pr a w) {ks : List Nat} {bs bs' : List Bk} {r : SV} {v : Value} {w' : World} {dst : Option Nat} (hdN : ∀ d, dst = some d → d < N) (hdk : ∀ d, dst = some d → d ∉ ks) (hd0 : dst = none → bs'.length = bs.length)
    (hnd : ks.Nodup) (hlen : ks.length = bs.length) (hb1 : bs.length ≤ bs'.length) (hb2 : bs'.length ≤ bs.length + 1) (hr : ∀ k, r.key = some k → k = bs.length ∧ bs'.length = bs.length + 1)
    (hblk : ∀ (i : Nat) (b : Bk) (k : Nat), bs[i]? = some b → ks[i]? = some k → s.σ k = some (b, false)) (hp : PostM w Pr (fun i => m (ks.getD i 0)) bs.length r bs' v w') :
    ∃ m' Pr', Rel E N wk w0 Pr0 ⟨killτ s.τ dst.toList, ovr (eraseσ s.σ dst) ((ks ++ dst.toList).zip (bs'.map fun b => (b, false)))⟩ m' Pr' a w' ∧ SRep (rd w' Pr') m' (ren (ks ++ dst.toList) r) v := by
  obtain ⟨mv', Pr', hmv, hbel, hko, hP, hP', hbnd, hle, hbs', hsep', hnew', hrv⟩ := hp
  let m' : Nat → Value := match dst with | some d => updm m d (mv' bs.length) | none => m
  have hm' : ∀ k, (∀ d, dst = some d → k ≠ d) → m' k = m k := fun k hk => by
    cases dst with
    | none => rfl
    | some d => show updm m d _ k = m k; unfold updm; rw [if_neg (hk d rfl)]
  have hmd : ∀ d, dst = some d → m' d = mv' bs.length := fun d hd => by
    subst hd; show updm m d _ d = _; unfold updm; rw [if_pos rfl]
  have htop : ∀ k, w.heap.size ≤ k → w0.O k := fun k hk => w0.top k (Nat.le_trans h.below.size hk)
  have hki : ∀ i, i < bs.length → ∃ k b, ks[i]? = some k ∧ bs[i]? = some b ∧ ks.getD i 0 = k ∧ s.σ k = some (b, false) := fun i hi => by
    have h1 : i < ks.length := by omega
    refine ⟨ks[i], bs[i], List.getElem?_eq_getElem h1, List.getElem?_eq_getElem hi, by simp [List.getD, h1], hblk i _ _ (List.getElem?_eq_getElem hi) (List.getElem?_eq_getElem h1)⟩
  have hown : ∀ g, OwnM w (fun i => m (ks.getD i 0)) bs.length g → w0.O g := by
    rintro g (hg | ⟨i, hi, hg⟩)
    · exact htop g hg
    · obtain ⟨k, b, _, _, e, hσ⟩ := hki i hi
      simp only [e] at hg
      obtain ⟨xs, _, _, hpr⟩ := h.blk k _ hσ
      exact (hpr g hg).1
  -- the keys, one by one
  have hkey : ∀ (i k : Nat), (ks ++ dst.toList)[i]? = some k → i < bs'.length → m' k = mv' i ∧ ((i < bs.length ∧ ks[i]? = some k ∧ (∀ d, dst = some d → k ≠ d)) ∨ (i = bs.length ∧ dst = some k)) := by
    intro i k hk hi
    by_cases hlt : i < bs.length
    · rw [List.getElem?_append_left (by omega)] at hk
      have hne : ∀ d, dst = some d → k ≠ d := fun d hd e => hdk d hd (by rw [← e]; exact List.mem_of_getElem? hk)
      refine ⟨?_, .inl ⟨hlt, hk, hne⟩⟩
      rw [hm' k hne, hmv i hlt]
      simp [List.getD, hk]
    · have e : i = bs.length := by omega
      subst e
      rw [List.getElem?_append_right (by omega), hlen, Nat.sub_self] at hk
      cases hdst : dst with
      | none => rw [hdst] at hk; simp at hk
      | some d =>
        rw [hdst] at hk
        simp at hk
        subst hk
        exact ⟨hmd d hdst, .inr ⟨rfl, rfl⟩⟩
  have hat : ∀ (i k : Nat) (b : Bk × Bool), ((ks ++ dst.toList).zip (bs'.map fun b => (b, false)))[i]? = some (k, b) → (ks ++ dst.toList)[i]? = some k ∧ ∃ c, bs'[i]? = some c ∧ b = (c, false) := by
    intro i k b hi
    rw [List.getElem?_zip_eq_some] at hi
    obtain ⟨h1, h2⟩ := hi
    simp only [List.getElem?_map, Option.map_eq_some_iff] at h2
    obtain ⟨c, hc, e⟩ := h2
    exact ⟨h1, c, hc, e.symm⟩
  have hout : ∀ (k : Nat) (b : Bk × Bool), (∀ p ∈ (ks ++ dst.toList).zip (bs'.map fun b => (b, false)), p.1 ≠ k) → eraseσ s.σ dst k = some b → s.σ k = some b ∧ (∀ d, dst = some d → k ≠ d) ∧ k ∉ ks := by
    intro k b hz hk
    have h1 : s.σ k = some b ∧ ∀ d, dst = some d → k ≠ d := by
      cases dst with
      | none => exact ⟨hk, (fun d hd => by cases hd)⟩
      | some d =>
        simp only [eraseσ, updσ] at hk
        split at hk
        · cases hk
        · rename_i hne; exact ⟨hk, fun d' hd' => by cases hd'; exact hne⟩
    refine ⟨h1.1, h1.2, fun hmem => ?_⟩
    obtain ⟨i, hi⟩ := List.getElem?_of_mem hmem
    have hil : i < bs.length := by have := (List.getElem?_eq_some_iff.1 hi).1; omega
    refine hz (k, (bs'[i]'(by omega), false)) (List.mem_of_getElem? (i := i) ?_) rfl
    rw [List.getElem?_zip_eq_some]
    refine ⟨?_, ?_⟩
    · show (ks ++ dst.toList)[i]? = some k
      rw [List.getElem?_append_left (by omega)]; exact hi
    · simp [List.getElem?_eq_getElem (show i < bs'.length by omega)]
  have hfar : ∀ (k : Nat) (b : Bk × Bool) (g : Nat), s.σ k = some b → k ∉ ks → home (m k) = some g → g < w.heap.size ∧ ¬ OwnM w (fun i => m (ks.getD i 0)) bs.length g := by
    intro k b g hk hkn hg
    obtain ⟨xs, _, hsh, _⟩ := h.blk k _ hk
    have hlt := hsh.lt hg
    refine ⟨hlt, ?_⟩
    rintro (hge | ⟨i, hi, hgi⟩)
    · omega
    · obtain ⟨k', b', hk', _, e, hσ'⟩ := hki i hi
      simp only [e] at hgi
      exact h.sep k k' b _ hk hσ' (fun e' => hkn (by rw [e']; exact List.mem_of_getElem? hk')) g hg hgi
  refine ⟨m', Pr', ⟨h.below.trans (hbel.mono hown), dk_keep h.dfr hko, fun k hk => ?_, fun p x hx => hle _ _ (h.keep p x hx), h.sz, fun g o h0 => hP g o (h.pr0 g o h0), ?_, hbnd, fun g cs hG => (h.glob g cs hG).mono hle, ?_, ?_, ?_⟩, ?_⟩
  · rw [hm' k (fun d hd e => by have := hdN d hd; omega)]
    exact h.pin k hk
  · intro g o hp
    rcases hP' g o hp with hp | hge
    · exact h.new g o hp
    · exact .inr (htop g hge)
  · intro t u hu
    have hu' : ∃ u0, s.τ t = some u0 ∧ (u = .junk ∨ (u = u0 ∧ ∀ k ∈ dst.toList, u0.key ≠ some k)) := by
      simp only [killτ] at hu
      split at hu
      · rename_i u0 hu0
        refine ⟨u0, hu0, ?_⟩
        split at hu
        · rename_i k hk
          split at hu
          · cases hu; exact .inl rfl
          · rename_i hn; cases hu; exact .inr ⟨rfl, fun j hj e => hn (by rw [hk] at e; cases e; exact hj)⟩
        · rename_i hk; cases hu; exact .inr ⟨rfl, fun j _ e => by rw [hk] at e; cases e⟩
      · cases hu
    obtain ⟨u0, hu0, hc⟩ := hu'
    obtain ⟨x, hx, hr⟩ := h.tmp t u0 hu0
    refine ⟨x, hx, ?_⟩
    rcases hc with rfl | ⟨rfl, hk⟩
    · trivial
    · exact hr.mono hle fun k hkk => hm' k (fun d hd e => hk d (by rw [hd]; simp) (by rw [← e]; exact hkk))
  · intro k b hk
    rcases ovr_cases hk with ⟨i, hi⟩ | ⟨hz, hk⟩
    · obtain ⟨h1, c, hc, rfl⟩ := hat i k b hi
      obtain ⟨e, _⟩ := hkey i k h1 (List.getElem?_eq_some_iff.1 hc).1
      rw [e]
      exact (hbs' i c hc).wide fun g hg => by
        obtain ⟨xs, _, _, hpr⟩ := hbs' i c hc
        exact hown g (hpr g hg).1
    · obtain ⟨h1, h2, h3⟩ := hout k b hz hk
      rw [hm' k h2]
      refine (h.blk k b h1).keep hle (fun g hg => hbel.block g (hfar k b g h1 h3 hg).2) (fun g hg o => ⟨fun hp => ?_, hP g o⟩)
      rcases hP' g o hp with hp | hge
      · exact hp
      · have := (hfar k b g h1 h3 hg).1; omega
  · intro k k' b c hk hk' hne g hg hg'
    rcases ovr_cases hk with ⟨i, hi⟩ | ⟨hz, hk⟩ <;> rcases ovr_cases hk' with ⟨j, hj⟩ | ⟨hz', hk'⟩
    · obtain ⟨h1, b0, hb0, rfl⟩ := hat i k b hi
      obtain ⟨h2, c0, hc0, rfl⟩ := hat j k' c hj
      obtain ⟨e1, _⟩ := hkey i k h1 (List.getElem?_eq_some_iff.1 hb0).1
      obtain ⟨e2, _⟩ := hkey j k' h2 (List.getElem?_eq_some_iff.1 hc0).1
      rw [e1] at hg; rw [e2] at hg'
      exact hsep' i j b0 c0 hb0 hc0 (fun e => by subst e; rw [h1] at h2; cases h2; exact hne rfl) g hg hg'
    · obtain ⟨h1, b0, hb0, rfl⟩ := hat i k b hi
      obtain ⟨e1, hcase⟩ := hkey i k h1 (List.getElem?_eq_some_iff.1 hb0).1
      obtain ⟨h2, h3, h4⟩ := hout k' c hz' hk'
      rw [hm' k' h3] at hg'
      rcases hcase with ⟨hlt, hki', hkd⟩ | ⟨rfl, hd⟩
      · rw [hm' k hkd] at hg
        exact h.sep k k' _ c (hblk i _ k (List.getElem?_eq_getElem hlt) hki') h2 hne g hg hg'
      · rw [e1] at hg
        have := hnew' _ (Nat.le_refl _) g hg
        have := (hfar k' c g h2 h4 hg').1
        omega
    · obtain ⟨h1, c0, hc0, rfl⟩ := hat j k' c hj
      obtain ⟨e1, hcase⟩ := hkey j k' h1 (List.getElem?_eq_some_iff.1 hc0).1
      obtain ⟨h2, h3, h4⟩ := hout k b hz hk
      rw [hm' k h3] at hg
      rcases hcase with ⟨hlt, hki', hkd⟩ | ⟨rfl, hd⟩
      · rw [hm' k' hkd] at hg'
        exact h.sep k k' b _ h2 (hblk j _ k' (List.getElem?_eq_getElem hlt) hki') hne g hg hg'
      · rw [e1] at hg'
        have := hnew' _ (Nat.le_refl _) g hg'
        have := (hfar k b g h2 h4 hg).1
        omega
    · obtain ⟨h1, h2, h3⟩ := hout k b hz hk
      obtain ⟨h4, h5, h6⟩ := hout k' c hz' hk'
      rw [hm' k h2] at hg; rw [hm' k' h5] at hg'
      exact h.sep k k' b c h1 h4 hne g hg hg'
  · cases hkr : r.key with
    | none => cases r <;> first | exact hrv | (cases hkr; done)
    | some k =>
      obtain ⟨rfl, hbl⟩ := hr k hkr
      cases hdst : dst with
      | none => have := hd0 hdst; omega
      | some d =>
        have e : (ks ++ (some d).toList).getD bs.length 0 = d := by simp [← hlen]
        have e2 : m' d = mv' bs.length := hmd d hdst
        cases r <;> simp only [SV.key, Option.some.injEq, reduceCtorEq] at hkr
        all_goals
          subst hkr
          simp only [ren, SRep, e, e2]
          exact hrv
end
end PG
