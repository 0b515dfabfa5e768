/- THE PURE READING OF A GO FUNCTION, 12: a function's contract out of the walk through its body; loops; functions without a body. -/
import Derived.Test.YtflpcgcgeffolaaDoorPgK
set_option linter.unusedVariables false
set_option linter.unusedSimpArgs false
namespace PG
open Go Go.RowKit

section
variable {E : PE} {N : Nat} {wk : Gh} {w0 : Fm} {Pr0 : Nat → Nat → Prop}

/-- What the results' variables hold in the end. -/
def presL (E : PE) (s : ES) : List ResultVar → Option (List PV × List Nat)
  | [] => some ([], [])
  | .tmp t :: rest => match res E (sget s.τ) (sget s.σ) (.tmp t) with
    | some r => match close r, presL E s rest with
      | some (v, f), some (vs, fs) => some (v :: vs, f ++ fs)
      | _, _ => none
    | none => none
  | .cell a t :: rest => match res E (sget s.τ) (sget s.σ) (.tmp a) with
    | some (.ptr _ off b) => match partPV E.P t b.cells off, presL E s rest with
      | some v, some (vs, fs) => some (v :: vs, fs)
      | _, _ => none
    | _ => none

/-- .. as one value, and what is given away with it. -/
def presF (E : PE) (s : ES) (rs : List ResultVar) : Option (PV × List Nat) :=
  match presL E s rs with
  | some ([v], f) => some (v, f)
  | some (vs, f) => some (.tuple vs, f)
  | none => none

def pres (E : PE) (s : ES) (rs : List ResultVar) : Option PV :=
  match presL E s rs with
  | some ([v], _) => some v
  | some (vs, _) => some (.tuple vs)
  | none => none

theorem presF_of {s : ES} {rs : List ResultVar} {r : PV} (h : pres E s rs = some r) : ∃ fz, presF E s rs = some (r, fz) := by
  unfold pres at h
  unfold presF
  split at h
  · rename_i v f hv; cases h; exact ⟨f, rfl⟩
  · rename_i vs f hne hv
    cases h
    match vs, hne with
    | [], _ => exact ⟨f, rfl⟩
    | [v], hne => exact (hne v rfl).elim
    | v :: u :: l, _ => exact ⟨f, rfl⟩
  · cases h

def retQ (E : PE) (rs : List ResultVar) (r : PV) : Exit → ES → Prop
  | .normal, s => pres E s rs = some r
  | .ret, s => pres E s rs = some r
  | _, _ => False

def startL : Nat → List PV → List (Nat × SV)
  | _, [] => []
  | i, v :: vs => (i, .val v) :: startL (i + 1) vs

def pstart (args : List PV) : ES := ⟨startL 0 args, []⟩

theorem get_start (args : List PV) : ∀ (i t : Nat) (v : SV), sget (startL i args) t = some v → ∃ p, args[t - i]? = some p ∧ i ≤ t ∧ v = .val p := by
  induction args with
  | nil => intro i t v h; simp [startL, sget] at h
  | cons a l ih =>
    intro i t v h
    simp only [startL, sget] at h
    split at h
    · rename_i e; subst e; cases h; exact ⟨a, by simp, Nat.le_refl _, rfl⟩
    · rename_i hne
      obtain ⟨p, hp, hle, rfl⟩ := ih (i + 1) t v h
      refine ⟨p, ?_, by omega, rfl⟩
      rw [show t - i = (t - (i + 1)) + 1 by omega]
      simpa using hp

theorem presL_run {s : ES} {m : Nat → Value} {Pr : Nat → Nat → Prop} {a : Act} {w : World} (h : Rel E N wk w0 Pr0 s.den m Pr a w) {fz : List Nat} {Pr' : Nat → Nat → Prop}
    (h' : Rel E N wk w0 Pr0 ⟨s.den.τ, frzσ s.den.σ fz⟩ m Pr' a w) (hP : ∀ b o, Pr b o → Pr' b o) : ∀ (rs : List ResultVar) {ps : List PV} {f : List Nat}, presL E s rs = some (ps, f) → (∀ k ∈ f, k ∈ fz) →
      ∃ xs : List Value, (rs.mapM fun | .tmp t => pure (a.tmps.getD t undef) | .cell p t => do loadVar t (← asAddr (a.tmps.getD p undef)) : Sem (List Value)).run E.P w = .ok xs w ∧ xs.length = ps.length ∧
        ∀ (j : Nat) p x, ps[j]? = some p → xs[j]? = some x → Rep (rd w Pr') p x
  | [], ps, f, hp, _ => by
    simp only [presL, Option.some.injEq, Prod.mk.injEq] at hp
    obtain ⟨rfl, rfl⟩ := hp
    exact ⟨[], by simp, rfl, fun j p x hp _ => by simp at hp⟩
  | .tmp t :: rest, ps, f, hp, hf => by
    simp only [presL] at hp
    split at hp
    · rename_i r hr
      split at hp
      · rename_i v f1 vs f2 hc hl
        simp only [Option.some.injEq, Prod.mk.injEq] at hp
        obtain ⟨rfl, rfl⟩ := hp
        have hrep := h.close h' hP (x := .tmp t) hr hc (fun k hk => hf k (by simp [hk]))
        obtain ⟨xs, hrun, hlen, hreps⟩ := presL_run h h' hP rest hl (fun k hk => hf k (by simp [hk]))
        refine ⟨a.eval (.tmp t) :: xs, ?_, by simp [hlen], fun j p x hp hx => ?_⟩
        · simp only [List.mapM_cons, Sem.run_bind, Sem.run_pure, Result.andThen_ok, hrun]
          rfl
        · cases j with
          | zero => simp only [List.getElem?_cons_zero, Option.some.injEq] at hp hx; subst hp; subst hx; exact hrep
          | succ j => exact hreps j p x (by simpa using hp) (by simpa using hx)
      · cases hp
    · cases hp
  | .cell p t :: rest, ps, f, hp, hf => by
    simp only [presL] at hp
    split at hp
    · rename_i k off b hr
      split at hp
      · rename_i v vs fs hv hl
        simp only [Option.some.injEq, Prod.mk.injEq] at hp
        obtain ⟨rfl, rfl⟩ := hp
        obtain ⟨ho, fl, hk⟩ := res_ptr hr
        obtain ⟨g, hg, he⟩ := (h.opSV (x := .tmp p) ho : SRep _ _ _ _)
        obtain ⟨ys, hall, hsh, _⟩ := h.blk k _ hk
        obtain ⟨z, hz, hzr⟩ := load_sound (P := E.P) (ad := ⟨g, 0, none⟩) hv hall (w := w) (fun j y hy => by rw [addr_add, Nat.zero_add]; exact hsh.cell hg j y hy)
        rw [addr_add, Nat.zero_add] at hz
        obtain ⟨xs, hrun, hlen, hreps⟩ := presL_run h h' hP rest hl hf
        have he' : asAddr (a.tmps.getD p undef) = pure ⟨g, off, none⟩ := by rw [show a.tmps.getD p undef = .pointer (some ⟨g, off, none⟩) from he]; rfl
        refine ⟨z :: xs, ?_, by simp [hlen], fun j q x hq hx => ?_⟩
        · simp only [List.mapM_cons, Sem.run_bind, Sem.run_pure, Result.andThen_ok, he', hz, hrun]
        · cases j with
          | zero => simp only [List.getElem?_cons_zero, Option.some.injEq] at hq hx; subst hq; subst hx; exact hzr.mono (rd_mono hP)
          | succ j => exact hreps j q x (by simpa using hq) (by simpa using hx)
      · cases hp
    · cases hp

theorem pres_run {s : ES} {m : Nat → Value} {Pr : Nat → Nat → Prop} {a : Act} {w : World} (h : Rel E N wk w0 Pr0 s.den m Pr a w) {fn : Func} {r : PV} {fz : List Nat} (hp : presF E s fn.results.toList = some (r, fz)) :
    ∃ v Pr', (results fn a.tmps).run E.P w = .ok v w ∧ Rel E N wk w0 Pr0 ⟨s.den.τ, frzσ s.den.σ fz⟩ m Pr' a w ∧ Rep (rd w Pr') r v := by
  unfold presF at hp
  have fin : ∀ {vs : List PV} {f : List Nat}, presL E s fn.results.toList = some (vs, f) → ∃ (xs : List Value) (Pr' : Nat → Nat → Prop), xs.length = vs.length ∧
      (results fn a.tmps).run E.P w = .ok (if h : xs.toArray.size = 1 then xs.toArray[0] else .tuple xs.toArray) w ∧ Rel E N wk w0 Pr0 ⟨s.den.τ, frzσ s.den.σ f⟩ m Pr' a w ∧
      ∀ (j : Nat) p x, vs[j]? = some p → xs[j]? = some x → Rep (rd w Pr') p x := by
    intro vs f hv
    obtain ⟨Pr', hP, h'⟩ := h.freeze f
    obtain ⟨xs, hrun, hlen, hreps⟩ := presL_run h h' hP fn.results.toList hv (fun k hk => hk)
    refine ⟨xs, Pr', hlen, ?_, h', hreps⟩
    unfold results
    have hrun' : (fn.results.mapM fun | .tmp t => pure (a.tmps.getD t undef) | .cell p t => do loadVar t (← asAddr (a.tmps.getD p undef)) : Sem (Array Value)).run E.P w = .ok xs.toArray w := by
      rw [Array.mapM_eq_mapM_toList, Sem.run_map, hrun]
      rfl
    rw [Sem.run_bind]
    exact congrArg (fun r : Result (Array Value) => r.andThen fun vs w' => Result.ok (if h : vs.size = 1 then vs[0] else .tuple vs) w') hrun'
  split at hp
  · rename_i v f hv
    cases hp
    obtain ⟨xs, Pr', hlen, hrun, h', hreps⟩ := fin hv
    match xs, hlen with
    | [x], _ => exact ⟨x, Pr', by simpa using hrun, h', hreps 0 _ x rfl rfl⟩
  · rename_i vs f hne hv
    cases hp
    obtain ⟨xs, Pr', hlen, hrun, h', hreps⟩ := fin hv
    have h1 : ¬ xs.toArray.size = 1 := by
      intro h1
      simp only [List.size_toArray] at h1
      rw [hlen] at h1
      match vs, h1 with
      | [v], _ => exact hne v rfl
    rw [dif_neg h1] at hrun
    exact ⟨_, Pr', hrun, h', Rep.tuple vs _ (by simp [hlen]) (fun j p x hp hx => hreps j p x hp (by simpa using hx))⟩
  · cases hp

/-- The world turns where no cells lie. -/
theorem Rel.turn {s : PS} {m : Nat → Value} {Pr : Nat → Nat → Prop} {a : Act} {w : World} (h : Rel E N wk w0 Pr0 s m Pr a w) {w' : World} {row : Option Nat} (hg : w.grownBy w' row)
    (hr : ∀ r, row = some r → w0.O r ∧ ∃ o : Obj, w.heap[r]? = some o ∧ o.isCells = false) {a' : Act} (ht : a'.tmps = a.tmps) {wk' : World} (hd : DfrOk w0.O a' w' ∧ KeepsOthers wk' w') : Rel E N ⟨wk', wk.m, wk.g⟩ w0 Pr0 s m Pr a' w' := by
  have hcell : ∀ (a : Addr) x, a.block < w.heap.size → w.cell? a = some x → w'.cell? a = some x := fun a x hlt hx => by
    by_cases e : row = some a.block
    · obtain ⟨_, o, ho, hc⟩ := hr _ e
      exfalso
      unfold World.cell? at hx
      rw [ho] at hx
      cases o <;> simp [Obj.isCells] at hc hx
    · rw [World.cell?_of_block (hg.block a.block hlt (fun e' => e e'.symm))]; exact hx
  have hle : ∀ a x, rd w Pr a = some x → rd w' Pr a = some x := rd_le fun a x hp hc => ⟨hp, hcell a x (h.bnd _ _ hp) hc⟩
  refine ⟨h.below.trans ((Bel.refl _ _).grown hg (fun k hk => w0.top k (Nat.le_trans h.below.size hk)) (fun g e => (hr g e).1)), hd, h.pin, fun p x hx => hle _ _ (h.keep p x hx), by rw [ht]; exact h.sz, h.pr0, h.new, fun b o hp => Nat.lt_of_lt_of_le (h.bnd b o hp) hg.size, fun g cs hG => (h.glob g cs hG).mono hle, fun t v hv => ?_, fun k b hk => ?_, h.sep⟩
  · obtain ⟨x, hx, hrep⟩ := h.tmp t v hv
    exact ⟨x, by rw [ht]; exact hx, hrep.mono hle fun _ _ => rfl⟩
  · have hb := h.blk k b hk
    refine hb.keep hle (fun g hgm => ?_) (fun g _ o => Iff.rfl)
    obtain ⟨xs, _, hsh, _⟩ := hb
    obtain ⟨cur, e', hh, _⟩ := hsh.at_ hgm
    refine hg.block g (Array.getElem?_eq_some_iff.1 hh).1 (fun e => ?_)
    obtain ⟨_, o, ho, hc⟩ := hr _ e.symm
    rw [hh] at ho; cases ho; cases hc

/-- At a function's return: what loops over functions have left is taken away, then the results are handed over. -/
theorem leaves_rel {fn : Func} {s : ES} {m : Nat → Value} {Pr : Nat → Nat → Prop} {X : Value → World → Prop}
    (fin : ∀ (wk' : World) (a : Act) (w : World), Rel E N ⟨wk', wk.m, wk.g⟩ w0 Pr0 s.den m Pr a w → ∃ v, (results fn a.tmps).run E.P w = .ok v w ∧ X v w) : ∀ (Ds : List Nat) {wk' : World} {a : Act} {w : World}, Rel E N ⟨wk', wk.m, wk.g⟩ w0 Pr0 s.den m Pr a w →
    a.defers = Ds.map (fun D => { target := .collected D, args := #[] }) → Ds.Nodup → (∀ D ∈ Ds, w0.O D ∧ w.heap[D]? = some (.deferred (some []))) →
    LeavesInM (RF none) 0 E.P fn a.tmps (fun e w'' => ∃ v, e = .returned v ∧ X v w'') a.defers .returning w
  | [], wk', a, w, h, hd, _, _ => by
    rw [hd]
    obtain ⟨v, hv, hx⟩ := fin _ _ _ h
    exact ⟨v, hv, v, rfl, hx⟩
  | D :: Ds, wk', a, w, h, hd, hn, hD => by
    rw [hd]
    obtain ⟨hge, hh⟩ := hD D (by simp)
    have hn' := List.nodup_cons.1 hn
    have hrest : ∀ D' ∈ Ds, w0.O D' ∧ (w.putObj D (.deferred none)).heap[D']? = some (.deferred (some [])) := fun D' hm => by
      have h1 := hD D' (by simp [hm])
      have hne : D' ≠ D := fun e => hn'.1 (e ▸ hm)
      have h2 := (grownBy_putObj' w D (.deferred none)).block D' (Array.getElem?_eq_some_iff.1 h1.2).1 (fun e => by cases e; exact hne rfl)
      exact ⟨h1.1, h2.trans h1.2⟩
    have ht := h.turn (grownBy_putObj' w D (.deferred none)) (fun r e => by cases e; exact ⟨hge, _, hh, rfl⟩) (a' := { a with defers := Ds.map (fun D => { target := .collected D, args := #[] }) }) rfl (wk' := w.putObj D (.deferred none)) ⟨⟨Ds, rfl, hn'.2, hrest⟩, KeepsOthers.refl _⟩
    exact ⟨by simp, .inl ⟨D, _, rfl, run_takeDeferred hh, leaves_rel fin Ds ht rfl hn'.2 hrest⟩⟩

/-- Out of a walk through a function's body: the call. -/
theorem enter_rel {f : FuncId} {fn : Func} {c : Code} {vs : Array Value} {w : World} {Q : Exit → ES → Prop} {X : Value → World → Prop} {s : ES} {m : Nat → Value} {wk : Gh} {w0 : Fm} {Pr0 Pr : Nat → Nat → Prop} (hf : E.P.funcs[f]? = some fn) (hname : (fn.name == "runtime.NumGoroutine") = false) (hb : fn.body = some c)
    (hsem : PSem E fn.ntmps none c Q s)
    (hrel : Rel E fn.ntmps wk w0 Pr0 s.den m Pr { tmps := vs ++ Array.replicate (fn.ntmps - vs.size) undef, defers := [] } w)
    (fin : ∀ (e : Exit) (s' : ES), Q e s' → (e = .normal ∨ e = .ret) ∧ ∀ (m' : Nat → Value) (Pr' : Nat → Nat → Prop) (wk' : World) (a : Act) (w' : World), Rel E fn.ntmps ⟨wk', wk.m, wk.g⟩ w0 Pr0 s'.den m' Pr' a w' → ∃ v, (results fn a.tmps).run E.P w' = .ok v w' ∧ X v w') :
    (callFunc f vs).run E.P w = .ok (.enter f vs) w ∧ Calls E.P f vs w (fun e w'' => ∃ v, e = .returned v ∧ X v w'') := by
  have hcall : (callFunc f vs).run E.P w = .ok (.enter f vs) w := by
    have h1 : fn.name ≠ "runtime.NumGoroutine" := by simpa using hname
    simp [callFunc, hf, h1, hb]
  refine ⟨hcall, callsIn_wide.1 (callsIn_of_wp_marks (F := RF none) (n := 0) hf hb trivial ?_)⟩
  refine wpIn_mono (hsem wk w0 Pr0 m Pr _ w hrel) ?_
  rintro e a' w' ⟨s', m', Pr', hq, hr'⟩
  obtain ⟨Ds, hd, hn, hD⟩ := hr'.dfr.1
  obtain ⟨he, hfin⟩ := fin e s' hq
  rcases he with rfl | rfl
  · exact leaves_rel (wk := wk) (hfin m' Pr') Ds (wk' := wk.w) hr' hd hn hD
  · exact leaves_rel (wk := wk) (hfin m' Pr') Ds (wk' := wk.w) hr' hd hn hD

/-- A call of a function with a body, out of a start state that fits the values handed over. -/
theorem PC.enter {f : FuncId} {fn : Func} {c : Code} {vs : Array Value} {r : PV} {w : World} {Pr : Nat → Nat → Prop} {s : ES} (hf : E.P.funcs[f]? = some fn) (hname : (fn.name == "runtime.NumGoroutine") = false) (hb : fn.body = some c)
    (hle : vs.size ≤ fn.ntmps) (hσ : s.σ = []) (hτ : ∀ t v, sget s.τ t = some v → ∃ x, vs[t]? = some x ∧ SRep (rd w Pr) (fun _ => undef) v x)
    (hPr : ∀ g o, Pr g o → g < w.heap.size) (hG : ∀ g cs, E.G g = some cs → Rep (rd w Pr) (.ref cs) (.pointer (some ⟨g, 0, none⟩))) (h : PSem E fn.ntmps none c (retQ E fn.results.toList r) s) :
    match (callFunc f vs).run E.P w with
    | .ok (.value v) w' => Post w Pr r v w'
    | .ok (.enter f' vs') w' => w' = w ∧ Calls E.P f' vs' w (fun e w'' => ∃ v, e = .returned v ∧ Post w Pr r v w'')
    | _ => False := by
  have key := enter_rel (vs := vs) (w := w) (wk := ⟨w, fun _ => undef, rd w Pr⟩) (w0 := ⟨w, fun g => w.heap.size ≤ g, fun _ h => h⟩) (Pr0 := Pr) (Pr := Pr) (m := fun _ => undef) (X := fun v w' => Post w Pr r v w') hf hname hb h
    ⟨Bel.refl _ _, ⟨dfrOk_nil rfl, KeepsOthers.refl _⟩, fun _ _ => rfl, fun _ _ h => h, by simp; omega, fun _ _ h => h, fun _ _ h => .inl h, hPr, hG, fun t v hv => by
      obtain ⟨x, hx, hr⟩ := hτ t v hv
      exact ⟨x, by rw [Array.getElem?_append_left (Array.getElem?_eq_some_iff.1 hx).1]; exact hx, hr⟩, fun k b hk => by simp [hσ, ES.den, sget] at hk, fun k k' b b' hk => by simp [hσ, ES.den, sget] at hk⟩
    (fun e s' hq => by
      have key : pres E s' fn.results.toList = some r → ∀ (m' : Nat → Value) (Pr' : Nat → Nat → Prop) (wk' : World) (a : Act) (w' : World), Rel E fn.ntmps ⟨wk', fun _ => undef, rd w Pr⟩ ⟨w, fun g => w.heap.size ≤ g, fun _ h => h⟩ Pr s'.den m' Pr' a w' → ∃ v, (results fn a.tmps).run E.P w' = .ok v w' ∧ Post w Pr r v w' := by
        intro hp m' Pr' wk' a w' hrel
        obtain ⟨fz, hpF⟩ := presF_of hp
        obtain ⟨v, Pr2, hrun, h2, hrep⟩ := pres_run hrel hpF
        exact ⟨v, hrun, hrep.mono (rd_mono fun g o hp => h2.new g o hp), h2.below.below⟩
      cases e with
      | normal => exact ⟨.inl rfl, key hq⟩
      | ret => exact ⟨.inr rfl, key hq⟩
      | _ => exact hq.elim)
  rw [key.1]
  exact ⟨rfl, key.2⟩

/-! ### Functions that write what they are handed -/
def shiftSV (N : Nat) : SV → SV
  | .row k => .row (N + k)
  | .ptr k o => .ptr (N + k) o
  | .sub k o n => .sub (N + k) o n
  | v => v

def startS (N : Nat) : Nat → List SV → List (Nat × SV)
  | _, [] => []
  | i, v :: vs => (i, shiftSV N v) :: startS N (i + 1) vs

def blkL (N : Nat) : Nat → List Bk → List (Nat × (Bk × Bool))
  | _, [] => []
  | i, b :: bs => (N + i, (b, false)) :: blkL N (i + 1) bs

def mstart (N : Nat) (args : List SV) (bs : List Bk) : ES := ⟨startS N 0 args, blkL N 0 bs⟩

/-- The key of a block handed over; of a new one. -/
def keyM (N nb kn i : Nat) : Nat := if i < nb then N + i else kn

/-- What must hold at the end of a function that writes what it is handed. -/
def finM (E : PE) (N nb : Nat) (rs : List ResultVar) (r : SV) (bs' : List Bk) (s : ES) : Prop :=
  ∃ kn, kn < N ∧ (∀ (i : Nat) (b : Bk), bs'[i]? = some b → sget s.σ (keyM N nb kn i) = some (b, false)) ∧
    ((∃ pv fz, r = .val pv ∧ presF E s rs = some (pv, fz) ∧ ∀ i, i < bs'.length → keyM N nb kn i ∉ fz) ∨
     (∃ t, rs = [.tmp t] ∧ bs'.length = nb + 1 ∧ ((∃ o, sget s.τ t = some (.ptr kn o) ∧ r = .ptr nb o) ∨ (sget s.τ t = some (.row kn) ∧ r = .row nb))))

def retM (E : PE) (N nb : Nat) (rs : List ResultVar) (r : SV) (bs' : List Bk) : Exit → ES → Prop
  | .normal, s => finM E N nb rs r bs' s
  | .ret, s => finM E N nb rs r bs' s
  | _, _ => False

theorem get_startS (N : Nat) (args : List SV) : ∀ (i t : Nat) (v : SV), sget (startS N i args) t = some v → ∃ p, args[t - i]? = some p ∧ i ≤ t ∧ v = shiftSV N p := by
  induction args with
  | nil => intro i t v h; simp [startS, sget] at h
  | cons a l ih =>
    intro i t v h
    simp only [startS, sget] at h
    split at h
    · rename_i e; subst e; cases h; exact ⟨a, by simp, Nat.le_refl _, rfl⟩
    · rename_i hne
      obtain ⟨p, hp, hle, rfl⟩ := ih (i + 1) t v h
      refine ⟨p, ?_, by omega, rfl⟩
      rw [show t - i = (t - (i + 1)) + 1 by omega]
      simpa using hp

theorem get_blkL (N : Nat) (bs : List Bk) : ∀ (i k : Nat) (b : Bk × Bool), sget (blkL N i bs) k = some b → ∃ j c, i ≤ j ∧ k = N + j ∧ bs[j - i]? = some c ∧ b = (c, false) := by
  induction bs with
  | nil => intro i k b h; simp [blkL, sget] at h
  | cons a l ih =>
    intro i k b h
    simp only [blkL, sget] at h
    split at h
    · rename_i e; subst e; cases h; exact ⟨i, a, Nat.le_refl _, rfl, by simp, rfl⟩
    · obtain ⟨j, c, hle, rfl, hc, rfl⟩ := ih (i + 1) k b h
      refine ⟨j, c, by omega, rfl, ?_, rfl⟩
      rw [show j - i = (j - (i + 1)) + 1 by omega]
      simpa using hc

theorem PCM.of_sem {f : FuncId} {fn : Func} {c : Code} {args : List SV} {bs : List Bk} {r : SV} {bs' : List Bk} (hf : E.P.funcs[f]? = some fn) (hname : (fn.name == "runtime.NumGoroutine") = false) (hb : fn.body = some c)
    (hle : args.length ≤ fn.ntmps) (hb1 : bs.length ≤ bs'.length) (hb2 : bs'.length ≤ bs.length + 1) (hrk : ∀ k, r.key = some k → k = bs.length ∧ bs'.length = bs.length + 1) (hrj : r ≠ .junk)
    (h : PSem E fn.ntmps none c (retM E fn.ntmps bs.length fn.results.toList r bs') (mstart fn.ntmps args bs)) : PCM E f args bs r bs' := by
  refine ⟨hb1, hb2, hrk, hrj, fun w Pr mv vs hPr hG hbs hsep hsz hreps => ?_⟩
  let N := fn.ntmps
  let m : Nat → Value := fun k => if k < N then undef else mv (k - N)
  have hmk : ∀ i, m (N + i) = mv i := fun i => by
    show (if N + i < N then undef else mv (N + i - N)) = mv i
    rw [if_neg (by omega), Nat.add_sub_cancel_left]
  let w0 : Fm := ⟨w, OwnM w mv bs.length, fun k hk => .inl hk⟩
  have hcells : ∀ g, OwnM w mv bs.length g → ∀ o, w.heap[g]? = some o → o.isCells = false → False := by
    rintro g (hg | ⟨i, hi, hg⟩) o ho hoc
    · have := (Array.getElem?_eq_some_iff.1 ho).1; omega
    · obtain ⟨xs, _, hsh, _⟩ := hbs i _ (List.getElem?_eq_getElem hi)
      obtain ⟨cur, e', hh, _⟩ := hsh.at_ hg
      rw [hh] at ho; cases ho; cases hoc
  have hblk0 : ∀ k b, sget (blkL N 0 bs) k = some b → ∃ i c, k = N + i ∧ bs[i]? = some c ∧ b = (c, false) := fun k b hk => by
    obtain ⟨j, c, _, rfl, hc, rfl⟩ := get_blkL N bs 0 k b hk
    exact ⟨j, c, rfl, by simpa using hc, rfl⟩
  have hrel : Rel E N ⟨w, m, rd w Pr⟩ w0 Pr (mstart N args bs).den m Pr { tmps := vs ++ Array.replicate (N - vs.size) undef, defers := [] } w := by
    have hN : args.length ≤ N := hle
    refine ⟨Bel.refl _ _, ⟨dfrOk_nil rfl, KeepsOthers.refl _⟩, fun _ _ => rfl, fun _ _ h => h, by simp; omega, fun _ _ h => h, fun _ _ h => .inl h, hPr, hG, fun t v hv => ?_, fun k b hk => ?_, fun k k' b b' hk hk' hne => ?_⟩
    · obtain ⟨p, hp, _, rfl⟩ := get_startS N args 0 t v hv
      simp only [Nat.sub_zero] at hp
      have hlt : t < vs.size := by rw [hsz]; exact (List.getElem?_eq_some_iff.1 hp).1
      refine ⟨vs[t], by rw [Array.getElem?_append_left hlt]; exact Array.getElem?_eq_getElem hlt, ?_⟩
      have hr := hreps t p _ hp (Array.getElem?_eq_getElem hlt)
      cases p <;> simp only [shiftSV, SRep, hmk] <;> exact hr
    · obtain ⟨i, c, rfl, hc, rfl⟩ := hblk0 k b hk
      rw [hmk]
      exact (hbs i c hc).wide fun g hg => .inr ⟨i, (List.getElem?_eq_some_iff.1 hc).1, hg⟩
    · obtain ⟨i, c, rfl, hc, rfl⟩ := hblk0 k b hk
      obtain ⟨j, d, rfl, hd, rfl⟩ := hblk0 k' b' hk'
      rw [hmk, hmk]
      exact hsep i j c d hc hd fun e => hne (by rw [e])
  have key := enter_rel (vs := vs) (w := w) (X := fun v w' => PostM w Pr mv bs.length r bs' v w') hf hname hb h hrel (fun e s' hq => by
    have key : finM E N bs.length fn.results.toList r bs' s' → ∀ (m' : Nat → Value) (Pr' : Nat → Nat → Prop) (wk' : World) (a : Act) (w' : World), Rel E N ⟨wk', m, rd w Pr⟩ w0 Pr s'.den m' Pr' a w' → ∃ v, (results fn a.tmps).run E.P w' = .ok v w' ∧ PostM w Pr mv bs.length r bs' v w' := by
      rintro ⟨kn, hkn, hσ, hres⟩ m' Pr' wk' a w' hrel'
      have hpin : ∀ i, m' (N + i) = mv i := fun i => (hrel'.pin _ (by omega)).trans (hmk i)
      let mv' : Nat → Value := fun i => if i < bs.length then mv i else if i < bs'.length then m' kn else undef
      have hmv : ∀ i, i < bs'.length → m' (keyM N bs.length kn i) = mv' i := fun i hi => by
        simp only [keyM, mv']
        split
        · exact hpin i
        · first | rfl | rw [if_pos hi]
      have hkinj : ∀ i j, i < bs'.length → j < bs'.length → i ≠ j → keyM N bs.length kn i ≠ keyM N bs.length kn j := fun i j hi hj hne => by
        simp only [keyM]
        split <;> split <;> omega
      have fin : ∀ (v : Value) (Pr2 : Nat → Nat → Prop) (s2 : PS), Rel E N ⟨wk', m, rd w Pr⟩ w0 Pr s2 m' Pr2 a w' → (∀ (i : Nat) (b : Bk), bs'[i]? = some b → s2.σ (keyM N bs.length kn i) = some (b, false)) → SRep (rd w' Pr2) mv' r v → PostM w Pr mv bs.length r bs' v w' := by
        intro v Pr2 s2 h2 hσ2 hr
        have hbr : ∀ (i : Nat) (b : Bk), bs'[i]? = some b → BRep (OwnM w mv bs.length) w' Pr2 (mv' i) (b, false) := fun i b hb => by
          have := h2.blk _ _ (hσ2 i b hb)
          rw [hmv i (List.getElem?_eq_some_iff.1 hb).1] at this
          exact this
        have hsep2 : ∀ (i j : Nat) (b c : Bk), bs'[i]? = some b → bs'[j]? = some c → i ≠ j → ∀ g, home (mv' i) = some g → home (mv' j) ≠ some g := fun i j b c hb hc hne => by
          have hi := (List.getElem?_eq_some_iff.1 hb).1
          have hj := (List.getElem?_eq_some_iff.1 hc).1
          have := h2.sep _ _ _ _ (hσ2 i b hb) (hσ2 j c hc) (hkinj i j hi hj hne)
          rw [hmv i hi, hmv j hj] at this
          exact this
        refine ⟨mv', Pr2, fun i hi => by simp [mv', hi], h2.below, ⟨h2.below.size, fun k o hk hoc => ?_⟩, h2.pr0, fun g o hp => ?_, h2.bnd, h2.keep, hbr, hsep2, fun i hi g hg => ?_, hr⟩
        · rw [h2.below.block k (fun hO => hcells k hO o hk hoc)]; exact hk
        · rcases h2.new g o hp with hp0 | hO | ⟨i, hi, hg⟩
          · exact .inl hp0
          · exact .inr hO
          · exfalso
            obtain ⟨xs, _, _, hpr⟩ := hbr i _ (List.getElem?_eq_getElem (show i < bs'.length by omega))
            have := ((hpr g (by simp only [mv', hi, if_true]; exact hg)).2 o).1 hp
            cases this.1
        · by_cases hil : i < bs'.length
          · have hbi := hbr i _ (List.getElem?_eq_getElem hil)
            obtain ⟨xs, _, _, hpr⟩ := hbi
            rcases (hpr g hg).1 with h0 | ⟨j, hj, hgj⟩
            · exact h0
            · exfalso
              exact hsep2 i j _ _ (List.getElem?_eq_getElem hil) (List.getElem?_eq_getElem (show j < bs'.length by omega)) (by omega) g hg (by simp only [mv', hj, if_true]; exact hgj)
          · simp only [mv', show ¬ i < bs.length by omega, hil, if_false] at hg
            simp [home, undef] at hg
      rcases hres with ⟨pv, fz, rfl, hpF, hfz⟩ | ⟨t, hrs, hlen, hcase⟩
      · obtain ⟨v, Pr2, hrun, h2, hrep⟩ := pres_run hrel' hpF
        refine ⟨v, hrun, fin v Pr2 _ h2 (fun i b hb => ?_) hrep⟩
        simp only [frzσ, hfz i (List.getElem?_eq_some_iff.1 hb).1, if_false]
        exact hσ i b hb
      · have hrun : ∀ x, a.tmps[t]? = some x → (results fn a.tmps).run E.P w' = .ok x w' := fun x hx => by
          unfold results
          have e : fn.results = #[.tmp t] := by apply Array.toList_inj.1; rw [hrs]
          rw [e]
          simp [hx]
        have e : m' kn = mv' bs.length := by simp [mv', hlen]
        rcases hcase with ⟨o, ht, rfl⟩ | ⟨ht, rfl⟩
        · obtain ⟨x, hx, hr⟩ := hrel'.tmp t _ ht
          refine ⟨x, hrun x hx, fin x Pr' _ hrel' hσ ?_⟩
          simp only [SRep, ← e]
          exact hr
        · obtain ⟨x, hx, hr⟩ := hrel'.tmp t _ ht
          refine ⟨x, hrun x hx, fin x Pr' _ hrel' hσ ?_⟩
          simp only [SRep, ← e]
          exact hr
    cases e with
    | normal => exact ⟨.inl rfl, key hq⟩
    | ret => exact ⟨.inr rfl, key hq⟩
    | _ => exact hq.elim)
  rw [key.1]
  exact ⟨rfl, key.2⟩

theorem PCM.of_body (hm : E.P.follows .mixedOrders = true) {f : FuncId} {fn : Func} {c : Code} {args : List SV} {bs : List Bk} {r : SV} {bs' : List Bk} (hf : E.P.funcs[f]? = some fn) (hname : (fn.name == "runtime.NumGoroutine") = false) (hb : fn.body = some c)
    (hok : codeOk E.mu fn.ntmps c = true) (hle : args.length ≤ fn.ntmps) (hb1 : bs.length ≤ bs'.length) (hb2 : bs'.length ≤ bs.length + 1) (hrk : ∀ k, r.key = some k → k = bs.length ∧ bs'.length = bs.length + 1) (hrj : r ≠ .junk)
    (h : pexec E fn.ntmps c (retM E fn.ntmps bs.length fn.results.toList r bs') (mstart fn.ntmps args bs)) : PCM E f args bs r bs' :=
  PCM.of_sem hf hname hb hle hb1 hb2 hrk hrj (pexec_sound hm c _ _ hok none (.inl rfl) h)

/-- THE CONTRACT OF A FUNCTION WITH A BODY. -/
theorem PC.of_sem {f : FuncId} {fn : Func} {c : Code} {args : List PV} {r : PV} (hf : E.P.funcs[f]? = some fn) (hname : (fn.name == "runtime.NumGoroutine") = false) (hb : fn.body = some c)
    (hle : args.length ≤ fn.ntmps) (h : PSem E fn.ntmps none c (retQ E fn.results.toList r) (pstart args)) : PC E f args r := by
  intro w Pr vs hPr hG hsz hreps
  refine PC.enter hf hname hb (by omega) rfl (fun t v hv => ?_) hPr hG h
  obtain ⟨p, hp, _, rfl⟩ := get_start args 0 t v hv
  simp only [Nat.sub_zero] at hp
  have hlt : t < vs.size := by rw [hsz]; exact (List.getElem?_eq_some_iff.1 hp).1
  exact ⟨vs[t], Array.getElem?_eq_getElem hlt, hreps t p _ hp (Array.getElem?_eq_getElem hlt)⟩

theorem PC.of_body (hm : E.P.follows .mixedOrders = true) {f : FuncId} {fn : Func} {c : Code} {args : List PV} {r : PV} (hf : E.P.funcs[f]? = some fn) (hname : (fn.name == "runtime.NumGoroutine") = false) (hb : fn.body = some c)
    (hok : codeOk E.mu fn.ntmps c = true) (hle : args.length ≤ fn.ntmps) (h : pexec E fn.ntmps c (retQ E fn.results.toList r) (pstart args)) : PC E f args r :=
  PC.of_sem hf hname hb hle (pexec_sound hm c _ _ hok none (.inl rfl) h)

/-- A contract at a slice: at nil, and at one that is not nil. -/
theorem PC.of_slice (hm : E.P.follows .mixedOrders = true) {f : FuncId} {fn : Func} {c : Code} {n : Nat} {cs : List PV} {r : PV} (hf : E.P.funcs[f]? = some fn) (hname : (fn.name == "runtime.NumGoroutine") = false) (hb : fn.body = some c)
    (hok : codeOk E.mu fn.ntmps c = true) (hle : 1 ≤ fn.ntmps) (h0 : n = 0 → cs = [] → pexec E fn.ntmps c (retQ E fn.results.toList r) ⟨[(0, .nil)], []⟩)
    (h1 : pexec E fn.ntmps c (retQ E fn.results.toList r) ⟨[(0, .val (.nn n cs))], []⟩) : PC E f [.lst n cs] r := by
  intro w Pr vs hPr hG hsz hreps
  have hx : ∃ x, vs = #[x] := by
    have h2 : vs.toList.length = 1 := by simpa using hsz
    match hv : vs.toList, h2 with
    | [x], _ => exact ⟨x, by apply Array.toList_inj.1; rw [hv]⟩
  obtain ⟨x, rfl⟩ := hx
  have hr := hreps 0 _ x rfl rfl
  have hn := hr.lst_inv
  rcases hn with ⟨rfl, rfl, rfl⟩ | ⟨a, cap, xs, rfl, _⟩
  · refine PC.enter hf hname hb hle (s := ⟨[(0, .nil)], []⟩) rfl (fun t v hv => ?_) hPr hG (pexec_sound hm c _ _ hok none (.inl rfl) (h0 rfl rfl))
    simp only [sget] at hv
    split at hv
    · rename_i e; subst e; cases hv; exact ⟨_, rfl, rfl⟩
    · cases hv
  · refine PC.enter hf hname hb hle (s := ⟨[(0, .val (.nn n cs))], []⟩) rfl (fun t v hv => ?_) hPr hG (pexec_sound hm c _ _ hok none (.inl rfl) h1)
    simp only [sget] at hv
    split at hv
    · rename_i e; subst e; cases hv; exact ⟨_, rfl, .nn a n cap cs hr⟩
    · cases hv

/-! ### Loops -/
/-- s' knows no more than s. -/
def Wk (s s' : ES) : Prop := (∀ p ∈ s'.τ, sget s.τ p.1 = some p.2) ∧ (∀ p ∈ s'.σ, sget s.σ p.1 = some p.2)

theorem get_mem {α : Type} : ∀ {l : List (Nat × α)} {t : Nat} {v : α}, sget l t = some v → (t, v) ∈ l
  | [], _, _, h => by simp [sget] at h
  | (k, u) :: l, t, v, h => by
    simp only [sget] at h
    split at h
    · rename_i e; subst e; cases h; simp
    · exact List.mem_cons_of_mem _ (get_mem h)

theorem Rel.weak {s s' : ES} {m : Nat → Value} {Pr : Nat → Nat → Prop} {a : Act} {w : World} (h : Rel E N wk w0 Pr0 s.den m Pr a w) (hw : Wk s s') : Rel E N wk w0 Pr0 s'.den m Pr a w :=
  ⟨h.below, h.dfr, h.pin, h.keep, h.sz, h.pr0, h.new, h.bnd, h.glob, fun t v hv => h.tmp t v (hw.1 _ (get_mem hv)), fun k b hk => h.blk k b (hw.2 _ (get_mem hk)),
    fun k k' b b' hk hk' => h.sep k k' b b' (hw.2 _ (get_mem hk)) (hw.2 _ (get_mem hk'))⟩

theorem exists_least {p : Nat → Prop} (h : ∃ n, p n) : ∃ n, p n ∧ ∀ k, p k → n ≤ k := by
  obtain ⟨n, hn⟩ := h
  induction n using Nat.strongRecOn with
  | _ n ih =>
    by_cases hl : ∃ k, k < n ∧ p k
    · obtain ⟨k, hk, hpk⟩ := hl
      exact ih k hk hpk
    · exact ⟨n, hn, fun k hk => Nat.le_of_not_lt fun hlt => hl ⟨k, hlt, hk⟩⟩

/-- A LOOP: states of one shape, told by an index; a measure; each round leads to such a state again, or out. -/
theorem PLoop.intro {ι : Type} (St : ι → ES) (J : ι → Prop) (μ : ι → Nat) {c : Code} {Q : Exit → ES → Prop} {s : ES} (i0 : ι) (hJ : J i0) (h0 : Wk s (St i0))
    (hr : ∀ i, J i → pexec E N c (pseq (fun s' => ∃ i', J i' ∧ μ i' < μ i ∧ Wk s' (St i')) Q) (St i)) : PLoop E N c Q s := by
  intro hok hm r hr0 wk w0 Pr0 m Pr a w hrel
  let Good : Act → World → Nat → Prop := fun a w n => ∃ i, J i ∧ μ i = n ∧ ∃ m Pr, Rel E N wk w0 Pr0 (St i).den m Pr a w
  let mu : Act → World → Nat := fun a w => open Classical in if h : ∃ n, Good a w n then Classical.choose (exists_least h) else 0
  have hmu : ∀ a w, (h : ∃ n, Good a w n) → Good a w (mu a w) ∧ ∀ k, Good a w k → mu a w ≤ k := fun a w h => by
    have := Classical.choose_spec (exists_least h)
    simp only [mu, dif_pos h]
    exact this
  refine wpIn_loop (fun a w => ∃ n, Good a w n) mu ⟨_, i0, hJ, rfl, m, Pr, hrel.weak h0⟩ fun a w hI => ?_
  obtain ⟨⟨i, hJi, hμ, m, Pr, hrel⟩, hmin⟩ := hmu a w hI
  refine wpIn_mono (pexec_sound hm c _ _ hok r hr0 (hr i hJi) wk w0 Pr0 m Pr a w hrel) ?_
  rintro e a' w' ⟨s', m', Pr', hq, hr'⟩
  cases e with
  | normal =>
    obtain ⟨i', hJ', hlt, hw⟩ := hq
    have hg : Good a' w' (μ i') := ⟨i', hJ', rfl, m', Pr', hr'.weak hw⟩
    refine ⟨⟨_, hg⟩, ?_⟩
    have := (hmu a' w' ⟨_, hg⟩).2 _ hg
    omega
  | _ => exact ⟨s', m', Pr', hq, hr'⟩

/-- The literal nil slice in a slot is a row of this call's own without elements. -/
theorem PLoop.nilrow {c : Code} {Q : Exit → ES → Prop} {s : ES} (t k : Nat) (hk : k < N) (e : TypeId) (z : Nat) (ht : sget s.τ t = some .nil)
    (h : PLoop E N c Q ⟨(t, .row k) :: killL s.τ [k], (k, (.row e z 0 [], false)) :: s.σ⟩) : PLoop E N c Q s := by
  intro hok hm r0 hr0 wk w0 Pr0 m Pr a w hrel
  have h1 := hrel.kill [k]
  have h2 := h1.blkset k (.row e z 0 [], false) (.slice none 0 0) w Pr hk (fun t u hu hk => absurd hk (killτ_key hu k (by simp))) (Bel.refl _ _) (KeepsOthers.refl _) (fun _ _ h => h) (fun _ _ h => .inl h) (fun _ _ h => h)
    ⟨[], All2.nil, World.ownsRow_nil w _ e z, fun g hg => by simp [home] at hg⟩ (fun j bj _ _ g _ => ⟨rfl, by simp [home]⟩)
  obtain ⟨x, hx, hr⟩ := hrel.tmp t .nil ht
  refine h hok hm r0 hr0 wk w0 Pr0 (updm m k (.slice none 0 0)) Pr a w ⟨h2.below, h2.dfr, h2.pin, h2.keep, h2.sz, h2.pr0, h2.new, h2.bnd, h2.glob, fun j v hv => ?_, fun j b hj => ?_, fun j j' b b' hj hj' => ?_⟩
  · simp only [ES.den, get_cons] at hv
    split at hv
    · rename_i e; subst e; cases hv
      exact ⟨x, hx, by rw [show x = _ from hr]; simp [SRep, updm]⟩
    · rw [get_kill] at hv
      exact h2.tmp j v hv
  · exact h2.blk j b (by simpa [ES.den, get_cons_upd] using hj)
  · exact h2.sep j j' b b' (by simpa [ES.den, get_cons_upd] using hj) (by simpa [ES.den, get_cons_upd] using hj')

/-- The literal nil slice in a slot is a slice without elements. -/
theorem PLoop.nilval {c : Code} {Q : Exit → ES → Prop} {s : ES} (t : Nat) (ht : sget s.τ t = some .nil) (h : PLoop E N c Q ⟨(t, .val (.lst 0 [])) :: s.τ, s.σ⟩) : PLoop E N c Q s := by
  intro hok hm r0 hr0 wk w0 Pr0 m Pr a w hrel
  refine h hok hm r0 hr0 wk w0 Pr0 m Pr a w ⟨hrel.below, hrel.dfr, hrel.pin, hrel.keep, hrel.sz, hrel.pr0, hrel.new, hrel.bnd, hrel.glob, fun j v hv => ?_, hrel.blk, hrel.sep⟩
  simp only [ES.den, get_cons] at hv
  split at hv
  · rename_i e; subst e; cases hv
    obtain ⟨x, hx, hr⟩ := hrel.tmp j .nil ht
    exact ⟨x, hx, by rw [show x = _ from hr]; exact Rep.nil⟩
  · exact hrel.tmp j v hv

/-- A row of the call's own is given away: from here on it is a plain slice. -/
theorem PLoop.frz {c : Code} {Q : Exit → ES → Prop} {s : ES} (t k : Nat) {e : TypeId} {z n : Nat} {cs : List PV} {fl : Bool} (ht : sget s.τ t = some (.row k)) (hk : sget s.σ k = some (.row e z n cs, fl)) (h : PLoop E N c Q ⟨(t, .val (.lst n cs)) :: s.τ, frzL s.σ [k]⟩) : PLoop E N c Q s := by
  intro hok hm r0 hr0 wk w0 Pr0 m Pr a w hrel
  obtain ⟨Pr', hP, h1⟩ := hrel.freeze [k]
  obtain ⟨x, hx, hr⟩ := h1.tmp t (.row k) ht
  have hrow := h1.frozen_row (k := k) (e := e) (z := z) (n := n) (cs := cs) (by
    show frzσ (sget s.σ) [k] k = _
    unfold frzσ
    rw [if_pos (by simp), hk]; rfl)
  refine h hok hm r0 hr0 wk w0 Pr0 m Pr' a w ⟨h1.below, h1.dfr, h1.pin, h1.keep, h1.sz, h1.pr0, h1.new, h1.bnd, h1.glob, fun j v hv => ?_, ?_, ?_⟩
  · simp only [ES.den, get_cons] at hv
    split at hv
    · rename_i e; subst e; cases hv
      exact ⟨x, hx, by rw [show x = m k from hr]; exact hrow⟩
    · exact h1.tmp j v hv
  · intro j b hj
    exact h1.blk j b (by simpa [ES.den, get_frz] using hj)
  · intro j j' b b' hj hj'
    exact h1.sep j j' b b' (by simpa [ES.den, get_frz] using hj) (by simpa [ES.den, get_frz] using hj')

/-- A function of the library that the model knows by itself, on plain numbers. -/
theorem PC.of_value {f : FuncId} {args : List PV} {r : PV} {v : Value} {xs : Array Value} (hxs : ∀ (g : Addr → Option Value) (vs : Array Value), vs.size = args.length → (∀ (j : Nat) p x, args[j]? = some p → vs[j]? = some x → Rep g p x) → vs = xs)
    (hrun : ∀ w, (callFunc f xs).run E.P w = .ok (.value v) w) (hr : ∀ g, Rep g r v) : PC E f args r := by
  intro w Pr vs hPr hG hsz hreps
  have := hxs _ vs hsz hreps
  subst this
  rw [hrun w]
  exact ⟨hr _, Below.refl _ _⟩
end

end PG
