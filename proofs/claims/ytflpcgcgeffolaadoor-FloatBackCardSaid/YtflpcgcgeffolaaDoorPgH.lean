/- THE PURE READING OF A GO FUNCTION, 8: a region's operations in the text's order, and in every order that the region lets: one pure walk serves. -/
import Derived.Test.YtflpcgcgeffolaaDoorPgG
set_option linter.unusedVariables false
set_option linter.unusedSimpArgs false
namespace PG
open Go Go.RowKit

def StepP (E : PE) (o : Oper) (s s' : PS) : Prop :=
  if isA o.op = true then ∃ v, stepA E o.op (opSV E s.τ) = some v ∧ s' = ⟨putτ s.τ o.dst v, s.σ⟩
  else ∃ out fz, stepR E o.op (res E s.τ s.σ) = some (out, fz) ∧ Appl E s o.dst fz out s'

/-- What is known of a guard: it holds this; it was passed over, as its own guard was not met. -/
def gslot (ops : Array Oper) (τ : Nat → Option SV) (j : Nat) : Option (Option Bool) :=
  match (ops[j]?).bind (·.dst) with
  | some t => match τ t with
    | some (.val (.bool b)) => some (some b)
    | some (.val (.tuple [])) => some none
    | _ => none
  | none => none

def StepI (E : PE) (ops : Array Oper) (i : Nat) (s s' : PS) : Prop :=
  ∃ o, ops[i]? = some o ∧ match o.guard with
    | none => StepP E o s s'
    | some (j, want) => ∃ b, gslot ops s.τ j = some b ∧ if b = some want then StepP E o s s' else s' = ⟨putτ s.τ o.dst (.val (.tuple [])), s.σ⟩

def Trace (E : PE) (ops : Array Oper) : List Nat → PS → PS → Prop
  | [], s, s' => s' = s
  | i :: l, s, s' => ∃ s1, StepI E ops i s s1 ∧ Trace E ops l s1 s'

/-- What keeps the text's order: an append; a call of a function that may write what it is handed. -/
def isApp (mu : Nat → Bool) : Op → Bool
  | .call c => match c.callee with
    | .builtin .append => true
    | .value (.func f) => mu f
    | _ => false
  | _ => false

def isStore : Op → Bool
  | .store .. => true
  | _ => false

/-- No slot mentions a block that is still to be made. -/
def NMs (ops : Array Oper) (l : List Nat) (s : PS) : Prop :=
  ∀ i ∈ l, ∀ o, ops[i]? = some o → isNew o.op = true → ∀ d, o.dst = some d → ∀ t u, s.τ t = some u → u.key ≠ some d

def dstsOk (N : Nat) (ops : Array Oper) : Bool := ops.all fun o => match o.dst with | some d => decide (d < N) | none => true

/-- The slot under whose number an operation makes a block. -/
def mk (mu : Nat → Bool) (ops : Array Oper) (i : Nat) : Option Nat := (ops[i]?).bind fun o => if isNew o.op || isApp mu o.op then o.dst else none

def distinct (mu : Nat → Bool) (ops : Array Oper) : Bool :=
  (List.range ops.size).all fun i => (List.range i).all fun j => mk mu ops i == none || mk mu ops i != mk mu ops j

section
variable {E : PE} {N : Nat} {wk : Gh} {w0 : Fm} {Pr0 : Nat → Nat → Prop} {s s' : PS} {m : Nat → Value} {Pr : Nat → Nat → Prop} {a : Act} {w : World} {ops : Array Oper}

/-- Every function may run; in the round of a loop over a function, or in none. -/
def RF (r : Option Nat) : Fence := { fn := fun _ => True, depth := none, alive := false, round := r }

theorem callsIn_RF {r : Option Nat} {n : Nat} {P : Program} {f : FuncId} {args : Array Value} {w : World} {R : Ending → World → Prop} (h : Calls P f args w R) : CallsIn (RF r) n P f args w R := by
  have h1 : CallsIn Fence.wide n P f args w R := callsIn_wide.2 h
  cases r with
  | none => exact h1
  | some l => exact CallsIn.inRound l h1

theorem wpIn_of_wp {r : Option Nat} {P : Program} {o : Oper} {a : Act} {w : World} {K : Act → World → Prop} {Q : Exit → Act → World → Prop} (hnd : ∀ c, o.op ≠ .defer c)
    (h : o.wp P a w K Q) : o.wpIn (RF r) 0 P a w K Q := by
  refine ⟨fun _ _ => trivial, ?_⟩
  have e : o.semAt (RF r).round a.eval = execOp a.eval o := by
    cases r with
    | none => simp [Oper.semAt, RF]
    | some l => exact Oper.semAt_some l _ _ hnd
  rw [e]
  unfold Oper.wp at h
  generalize (execOp a.eval o).run P w = res at h ⊢
  cases res with
  | ok n w' =>
    cases n with
    | value v => exact h
    | skip => exact h
    | defer d => exact h
    | enter f args => exact ⟨fun hd => by simp [RF] at hd, callsIn_RF h⟩
    | row rw args =>
      refine ⟨fun hd => by simp [RF] at hd, fun c cs _ => ?_⟩
      obtain ⟨v, w'', hr, hs⟩ := h c cs
      refine ⟨v, w'', hr, ?_⟩
      have hs' := stepsIn_wide.2 hs
      cases r with
      | none => exact hs'
      | some l => exact hs'
    | _ => exact h.elim
  | halt s w' =>
    cases s with
    | panic v => exact h
    | _ => exact h.elim

theorem stepP_sound (h : Rel E N wk w0 Pr0 s m Pr a w) {o : Oper} {K : Act → World → Prop} {Q : Exit → Act → World → Prop} (hd : ∀ d, o.dst = some d → d < N)
    (hnm : isNew o.op = true → ∀ d, o.dst = some d → ∀ t u, s.τ t = some u → u.key ≠ some d) (hs : StepP E o s s') (hK : ∀ m' Pr' a' w', Rel E N wk w0 Pr0 s' m' Pr' a' w' → K a' w') :
    o.wp E.P a w K Q := by
  unfold StepP at hs
  split at hs
  · obtain ⟨v, hv, rfl⟩ := hs
    obtain ⟨x, hrun, hrep⟩ := stepA_sound h hv
    exact val_step h hd hrun hrep hK
  · obtain ⟨out, fz, hv, ha⟩ := hs
    exact stepR_sound h hd hnm hv ha hK

theorem stepP_nd {o : Oper} (hs : StepP E o s s') : ∀ c, o.op ≠ .defer c := by
  intro c e
  unfold StepP at hs
  rw [e] at hs
  simp [isA, stepR] at hs

theorem gslot_yielded (h : Rel E N wk w0 Pr0 s m Pr a w) {j : Nat} {b : Option Bool} (hg : gslot ops s.τ j = some b) : yielded ops a.tmps j = b := by
  unfold gslot at hg
  split at hg
  · rename_i t ht
    split at hg
    · rename_i b' hs
      cases hg
      obtain ⟨x, hx, hr⟩ := h.tmp t _ hs
      have := (hr : Rep _ _ _).bool_inv
      subst this
      unfold yielded
      rw [ht]
      simp only [Option.bind_some, hx]
    · rename_i hs
      cases hg
      obtain ⟨x, hx, hr⟩ := h.tmp t _ hs
      have hr' : Rep _ (.tuple []) x := hr
      have hxe : x = .tuple #[] := by
        cases hr' with
        | tuple vs xs hl h => simp only [List.length_nil, Array.size_eq_zero_iff] at hl; rw [hl]
      subst hxe
      unfold yielded
      rw [ht]
      simp only [Option.bind_some, hx]
    · cases hg
  · cases hg

theorem dstsOk_spec (hN : dstsOk N ops = true) {i : Nat} {o : Oper} (ho : ops[i]? = some o) : ∀ d, o.dst = some d → d < N := by
  intro d hd
  have := Array.all_eq_true_iff_forall_mem.1 hN o (Array.mem_of_getElem? ho)
  simp only [hd, decide_eq_true_eq] at this
  exact this

theorem stepI_sound {r : Option Nat} (hN : dstsOk N ops = true) (h : Rel E N wk w0 Pr0 s m Pr a w) {i : Nat} {K : Act → World → Prop} {Q : Exit → Act → World → Prop} (hnm : NMs ops [i] s)
    (hs : StepI E ops i s s') (hK : ∀ m' Pr' a' w', Rel E N wk w0 Pr0 s' m' Pr' a' w' → K a' w') : wpOpIn (RF r) 0 E.P ops Q i K a w := by
  obtain ⟨o, ho, hs⟩ := hs
  have hd := dstsOk_spec hN ho
  have hn := hnm i (by simp) o ho
  unfold wpOpIn
  simp only [ho]
  cases hgd : o.guard with
  | none =>
    simp only [hgd] at hs
    have hw : Region.wanted o (yielded ops a.tmps) = true := by simp [Region.wanted, hgd]
    simp only [hw, if_true]
    exact wpIn_of_wp (stepP_nd hs) (stepP_sound h hd hn hs hK)
  | some gw =>
    obtain ⟨j, want⟩ := gw
    simp only [hgd] at hs
    obtain ⟨b, hb, hs⟩ := hs
    have hy := gslot_yielded h hb
    have hwe : Region.wanted o (yielded ops a.tmps) = (b == some want) := by
      simp only [Region.wanted, hgd, hy]
    rw [hwe]
    split at hs
    · rename_i hbw
      subst hbw
      simp only [beq_self_eq_true, if_true]
      exact wpIn_of_wp (stepP_nd hs) (stepP_sound h hd hn hs hK)
    · rename_i hbw
      have : (b == some want) = false := by simpa using hbw
      simp only [this, Bool.false_eq_true, if_false]
      subst hs
      exact ⟨fun _ _ => trivial, hK _ _ _ _ (h.put o.dst hd (v := .val (.tuple [])) (x := undef) (Rep.tuple [] #[] rfl (by simp)))⟩

/-! ### Which blocks a step mentions -/
def Ment (τ : Nat → Option SV) (k : Nat) : Prop := ∃ t u, τ t = some u ∧ u.key = some k

theorem opSV_key {τ : Nat → Option SV} {x : Operand} {v : SV} {k : Nat} (h : opSV E τ x = some v) (hk : v.key = some k) : Ment τ k := by
  cases x with
  | tmp t => exact ⟨t, v, h, hk⟩
  | const c =>
    simp only [opSV, constSV] at h
    split at h
    · cases h; cases hk
    · cases h; cases hk
    · simp only [Option.map_eq_some_iff] at h
      obtain ⟨p, _, rfl⟩ := h
      cases hk
  | global g =>
    simp only [opSV, Option.map_eq_some_iff] at h
    obtain ⟨p, _, rfl⟩ := h
    cases hk
  | func f => simp only [opSV, Option.some.injEq] at h; subst h; cases hk

theorem map_val_key {o : Option PV} {v : SV} (h : o.map SV.val = some v) : v.key = none := by
  simp only [Option.map_eq_some_iff] at h
  obtain ⟨p, _, rfl⟩ := h
  rfl

theorem nilCmp_key {P : Program} {op : BinOp} {t : TypeId} {x y : Option SV} {v : SV} (h : nilCmp P op t x y = some v) : v.key = none := by
  unfold nilCmp at h
  repeat' (split at h)
  all_goals first
    | (cases h; done)
    | (cases h; rfl)

theorem stepA_key {op : Op} {τ : Nat → Option SV} {v : SV} {k : Nat} (h : stepA E op (opSV E τ) = some v) (hk : v.key = some k) : Ment τ k := by
  cases op <;> simp only [stepA, reduceCtorEq] at h
  case move x => split at h
                 · cases h
                 · exact opSV_key h hk
  case assign x => exact opSV_key h hk
  case fieldAddr t x i =>
    repeat' (split at h)
    all_goals first
      | (cases h; done)
      | (cases h; cases hk; done)
      | (rename_i hx; cases h; exact opSV_key hx hk)
  all_goals
    repeat' (split at h)
    all_goals first
      | (cases h; done)
      | (cases h; cases hk; done)
      | (have := map_val_key h; rw [this] at hk; cases hk)
      | (have := nilCmp_key h; rw [this] at hk; cases hk)

theorem close_key {r : RV} {p : PV} {f : List Nat} {σ : Nat → Option (Bk × Bool)} {τ : Nat → Option SV} {x : Operand} (hr : res E τ σ x = some r) (hc : close r = some (p, f)) : ∀ k ∈ f, Ment τ k := by
  intro k hk
  cases r with
  | val v => simp only [close, Option.some.injEq, Prod.mk.injEq] at hc; rw [← hc.2] at hk; cases hk
  | nil => simp only [close, Option.some.injEq, Prod.mk.injEq] at hc; rw [← hc.2] at hk; cases hk
  | row j b =>
    obtain ⟨ho, _⟩ := res_row hr
    cases b with
    | box cs => cases hc
    | row e z n cs =>
      simp only [close, Option.some.injEq, Prod.mk.injEq] at hc
      rw [← hc.2] at hk
      simp only [List.mem_singleton] at hk
      subst hk
      exact opSV_key ho rfl
  | ptr j off b =>
    obtain ⟨ho, _⟩ := res_ptr hr
    simp only [close, Option.some.injEq, Prod.mk.injEq] at hc
    rw [← hc.2] at hk
    simp only [List.mem_singleton] at hk
    subst hk
    exact opSV_key ho rfl
  | sub j off n b =>
    obtain ⟨ho, _⟩ := res_sub hr
    cases b with
    | box cs => cases hc
    | row e z n0 cs =>
      simp only [close] at hc
      split at hc
      · simp only [Option.some.injEq, Prod.mk.injEq] at hc
        rw [← hc.2] at hk
        simp only [List.mem_singleton] at hk
        subst hk
        exact opSV_key ho rfl
      · cases hc

theorem closeL_key {σ : Nat → Option (Bk × Bool)} {τ : Nat → Option SV} : ∀ (l : List (Option RV)) {ps : List PV} {f : List Nat}, (∀ r ∈ l, ∃ x, r = res E τ σ x) → closeL l = some (ps, f) → ∀ k ∈ f, Ment τ k
  | [], ps, f, _, hc, k, hk => by
    simp only [closeL, Option.some.injEq, Prod.mk.injEq] at hc
    rw [← hc.2] at hk; cases hk
  | none :: l, ps, f, _, hc, k, hk => by simp [closeL] at hc
  | some r :: l, ps, f, hl, hc, k, hk => by
    simp only [closeL] at hc
    split at hc
    · rename_i v f1 vs f2 h1 h2
      simp only [Option.some.injEq, Prod.mk.injEq] at hc
      rw [← hc.2] at hk
      rcases List.mem_append.1 hk with hk | hk
      · obtain ⟨x, hx⟩ := hl (some r) (by simp)
        exact close_key hx.symm h1 k hk
      · exact closeL_key l (fun r hr => hl r (by simp [hr])) h2 k hk
    · cases hc

theorem frzOf_key {σ : Nat → Option (Bk × Bool)} {τ : Nat → Option SV} {x : Operand} : ∀ k ∈ frzOf (res E τ σ x), Ment τ k := by
  intro k hk
  unfold frzOf at hk
  split at hk
  · rename_i j b hr
    simp only [List.mem_singleton] at hk; subst hk
    exact opSV_key (res_row hr).1 rfl
  · rename_i j off b hr
    simp only [List.mem_singleton] at hk; subst hk
    exact opSV_key (res_ptr hr).1 rfl
  · rename_i j off n b hr
    simp only [List.mem_singleton] at hk; subst hk
    exact opSV_key (res_sub hr).1 rfl
  · cases hk

theorem pbuiltin_key {σ : Nat → Option (Bk × Bool)} {τ : Nat → Option SV} {b : Builtin} {ts : List TypeId} {l : List Operand} {out : Out} {fz : List Nat} (h : pbuiltin E b ts (l.map (res E τ σ)) = some (out, fz)) :
    (∀ k ∈ fz, Ment τ k) ∧ (∀ v, out = .val v → v.key = none) ∧ (∀ b', out ≠ .new b') ∧ (∀ k b', out ≠ .st k b') ∧ (∀ f as, out ≠ .inl f as) := by
  unfold pbuiltin at h
  split at h
  · repeat' (split at h)
    all_goals first
      | (cases h; done)
      | (cases h; exact ⟨(fun k hk => by simp at hk), (fun v hv => by cases hv; rfl), (fun _ e => by cases e), (fun _ _ e => by cases e), (fun _ _ e => by cases e)⟩)
  · simp only [Option.map_eq_some_iff] at h
    obtain ⟨r, _, he⟩ := h
    cases he
    exact ⟨(fun k hk => by simp at hk), (fun v hv => by cases hv; rfl), (fun _ e => by cases e), (fun _ _ e => by cases e), (fun _ _ e => by cases e)⟩
  · simp only [Option.map_eq_some_iff] at h
    obtain ⟨r, _, he⟩ := h
    cases he
    exact ⟨(fun k hk => by simp at hk), (fun v hv => by cases hv; rfl), (fun _ e => by cases e), (fun _ _ e => by cases e), (fun _ _ e => by cases e)⟩
  · rename_i t t' x y hargs
    obtain ⟨p, q, rfl, rfl, rfl⟩ : ∃ p q, l = [p, q] ∧ res E τ σ p = x ∧ res E τ σ q = y := by
      match l, hargs with
      | [p, q], hargs => simp at hargs; exact ⟨p, q, rfl, hargs.1, hargs.2⟩
    repeat' (split at h)
    all_goals first
      | (cases h; done)
      | (cases h; exact ⟨frzOf_key, (fun v hv => by cases hv), (fun _ e => by cases e), (fun _ _ e => by cases e), (fun _ _ e => by cases e)⟩)
  · cases h
end
end PG
