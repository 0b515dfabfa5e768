/- THE PURE READING OF A GO FUNCTION, 9: two operations that do not touch each other may change places; so a region's text serves for every order. -/
import Derived.Test.YtflpcgcgeffolaaDoorPgH
set_option linter.unusedVariables false
set_option linter.unusedSimpArgs false
namespace PG
open Go Go.RowKit

section
variable {E : PE} {N : Nat} {wk : Gh} {w0 : Fm} {Pr0 : Nat → Nat → Prop} {s s' s1 s2 : PS} {m : Nat → Value} {Pr : Nat → Nat → Prop} {a : Act} {w : World} {ops : Array Oper}

theorem stepA_congr {op : Op} {ρ ρ' : Operand → Option SV} (h : ∀ x ∈ op.operands, ρ x = ρ' x) : stepA E op ρ = stepA E op ρ' := by
  cases op <;> simp only [Op.operands] at h <;> simp only [stepA]
  case move x => rw [h x (by simp)]
  case assign x => rw [h x (by simp)]
  case pick c x y => rw [h c (by simp), h x (by simp), h y (by simp)]
  case binOp o t x y t' => rw [h x (by simp), h y (by simp)]
  case unOp o t x => rw [h x (by simp)]
  case convert t t' x => rw [h x (by simp)]
  case extract x i => rw [h x (by simp)]
  case field t x i => rw [h x (by simp)]
  case fieldAddr t x i => rw [h x (by simp)]
  case index t x i => rw [h x (by simp), h i (by simp)]

theorem stepR_congr {op : Op} {ρ ρ' : Operand → Option RV} (h : ∀ x ∈ op.operands, ρ x = ρ' x) : stepR E op ρ = stepR E op ρ' := by
  cases op <;> simp only [Op.operands] at h <;> simp only [stepR]
  case box t x => rw [h x (by simp)]
  case build t ps =>
    have e : (ps.toList.map fun p => ρ p.2) = ps.toList.map fun p => ρ' p.2 := List.map_congr_left fun p hp => h p.2 (by simp only [List.mem_toArray, List.mem_map]; exact ⟨p, hp, rfl⟩)
    rw [e]
  case buildSlice t n ps =>
    have e : (ps.toList.map fun p => ρ p.2) = ps.toList.map fun p => ρ' p.2 := List.map_congr_left fun p hp => h p.2 (by simp only [List.mem_toArray, List.mem_map]; exact ⟨p, hp, rfl⟩)
    rw [e]
  case load t x => rw [h x (by simp)]
  case store t x y => rw [h x (by simp), h y (by simp)]
  case nilCheck x => rw [h x (by simp)]
  case makeFunc fn first captured =>
    have e : captured.toList.map ρ = captured.toList.map ρ' := List.map_congr_left fun x hx => h x (by simp [Array.mem_toList_iff.1 hx])
    cases fn with
    | func f => simp only [e]
    | _ => rfl
  case makeSlice t l c => rw [h l (by simp), h c (by simp)]
  case slice t x lo hi mx =>
    have ex := h x (by simp)
    have e1 : lo.map ρ = lo.map ρ' := by cases lo with
      | none => rfl
      | some y => simp only [Option.map_some]; rw [h y (by simp)]
    have e2 : hi.map ρ = hi.map ρ' := by cases hi with
      | none => rfl
      | some y => simp only [Option.map_some]; rw [h y (by simp)]
    cases mx with
    | none => simp only [ex, e1, e2]
    | some _ => rfl
  case indexAddr t x i => rw [h x (by simp), h i (by simp)]
  case call c =>
    have e : c.args.toList.map ρ = c.args.toList.map ρ' := List.map_congr_left fun x hx => h x (by simp [Call.operands, Array.mem_toList_iff.1 hx])
    rw [e]
    cases hc : c.callee with
    | value f => simp only [h f (by simp [Call.operands, hc])]
    | invoke r mm => rfl
    | builtin b => rfl

theorem stepR_key {op : Op} {τ : Nat → Option SV} {σ : Nat → Option (Bk × Bool)} {out : Out} {fz : List Nat} (h : stepR E op (res E τ σ) = some (out, fz)) :
    (∀ k ∈ fz, Ment τ k) ∧ (∀ v k, out = .val v → v.key = some k → Ment τ k) ∧ ((∃ b, out = .new b) → isNew op = true) ∧ ((∃ k b, out = .st k b) → isStore op = true) ∧ ((∃ k b, out = .app k b) → isApp E.mu op = true) ∧ ((∃ f as, out = .inl f as) → isApp E.mu op = true ∧ fz = []) := by
  have nofz : ∀ {fz' : List Nat}, fz' = [] → ∀ k ∈ fz', Ment τ k := by rintro _ rfl k hk; cases hk
  cases op <;> simp only [stepR, reduceCtorEq] at h
  case alloc t =>
    simp only [Option.map_eq_some_iff] at h
    obtain ⟨cs, _, he⟩ := h
    cases he
    exact ⟨nofz rfl, (fun v k e => by cases e), (fun _ => rfl), (fun ⟨_, _, e⟩ => by cases e), (fun ⟨_, _, e⟩ => by cases e), (fun ⟨_, _, e⟩ => by cases e)⟩
  case box t x =>
    split at h
    · rename_i r hr
      split at h
      · rename_i p f hc
        split at h
        · cases h
          exact ⟨close_key hr hc, (fun v k e => by cases e), (fun _ => rfl), (fun ⟨_, _, e⟩ => by cases e), (fun ⟨_, _, e⟩ => by cases e), (fun ⟨_, _, e⟩ => by cases e)⟩
        · cases h
      · cases h
    · cases h
  case build t ps =>
    split at h
    · rename_i vs f z pl hcl _ _
      split at h
      · cases h
        exact ⟨closeL_key _ (fun r hr => by obtain ⟨p, _, rfl⟩ := List.mem_map.1 hr; exact ⟨p.2, rfl⟩) hcl, (fun v k e hk => by cases e; cases hk), (fun ⟨_, e⟩ => by cases e), (fun ⟨_, _, e⟩ => by cases e), (fun ⟨_, _, e⟩ => by cases e), (fun ⟨_, _, e⟩ => by cases e)⟩
      · cases h
    · cases h
  case buildSlice t n ps =>
    split at h
    · rename_i vs f e hcl _
      split at h
      · split at h
        · cases h
        · split at h
          · cases h
            exact ⟨closeL_key _ (fun r hr => by obtain ⟨p, _, rfl⟩ := List.mem_map.1 hr; exact ⟨p.2, rfl⟩) hcl, (fun v k e => by cases e), (fun _ => rfl), (fun ⟨_, _, e⟩ => by cases e), (fun ⟨_, _, e⟩ => by cases e), (fun ⟨_, _, e⟩ => by cases e)⟩
          · cases h
      · cases h
    · cases h
  case load t x =>
    split at h
    · simp only [Option.map_eq_some_iff] at h
      obtain ⟨p, _, he⟩ := h
      cases he
      exact ⟨nofz rfl, (fun v k e hk => by cases e; cases hk), (fun ⟨_, e⟩ => by cases e), (fun ⟨_, _, e⟩ => by cases e), (fun ⟨_, _, e⟩ => by cases e), (fun ⟨_, _, e⟩ => by cases e)⟩
    · simp only [Option.map_eq_some_iff] at h
      obtain ⟨p, _, he⟩ := h
      cases he
      exact ⟨nofz rfl, (fun v k e hk => by cases e; cases hk), (fun ⟨_, e⟩ => by cases e), (fun ⟨_, _, e⟩ => by cases e), (fun ⟨_, _, e⟩ => by cases e), (fun ⟨_, _, e⟩ => by cases e)⟩
    · cases h
  case store t x y =>
    split at h
    · rename_i k off b r hx hy
      split at h
      · rename_i p f n hc hsz
        split at h
        · split at h
          · cases h
          · cases h
            exact ⟨close_key hy hc, (fun v k e => by cases e), (fun ⟨_, e⟩ => by cases e), (fun _ => rfl), (fun ⟨_, _, e⟩ => by cases e), (fun ⟨_, _, e⟩ => by cases e)⟩
        · cases h
      · cases h
    · cases h
  case nilCheck x =>
    split at h
    · rename_i k o b hr
      cases h
      exact ⟨nofz rfl, (fun v k e hk => by cases e; exact opSV_key (res_ptr hr).1 hk), (fun ⟨_, e⟩ => by cases e), (fun ⟨_, _, e⟩ => by cases e), (fun ⟨_, _, e⟩ => by cases e), (fun ⟨_, _, e⟩ => by cases e)⟩
    · cases h
      exact ⟨nofz rfl, (fun v k e hk => by cases e; cases hk), (fun ⟨_, e⟩ => by cases e), (fun ⟨_, _, e⟩ => by cases e), (fun ⟨_, _, e⟩ => by cases e), (fun ⟨_, _, e⟩ => by cases e)⟩
    · cases h
      exact ⟨nofz rfl, (fun v k e hk => by cases e; cases hk), (fun ⟨_, e⟩ => by cases e), (fun ⟨_, _, e⟩ => by cases e), (fun ⟨_, _, e⟩ => by cases e), (fun ⟨_, _, e⟩ => by cases e)⟩
    · cases h
  case makeFunc fn first captured =>
    cases fn with
    | func f =>
      simp only at h
      split at h
      · cases h
      · split at h
        · rename_i vs fz' hcl
          cases h
          exact ⟨closeL_key _ (fun r hr => by obtain ⟨p, _, rfl⟩ := List.mem_map.1 hr; exact ⟨p, rfl⟩) hcl, (fun v k e hk => by cases e; cases hk), (fun ⟨_, e⟩ => by cases e), (fun ⟨_, _, e⟩ => by cases e), (fun ⟨_, _, e⟩ => by cases e), (fun ⟨_, _, e⟩ => by cases e)⟩
        · cases h
    | _ => simp at h
  case makeSlice t l c =>
    repeat' (split at h)
    all_goals first
      | (cases h; done)
      | (cases h; exact ⟨nofz rfl, (fun v k e => by cases e), (fun _ => rfl), (fun ⟨_, _, e⟩ => by cases e), (fun ⟨_, _, e⟩ => by cases e), (fun ⟨_, _, e⟩ => by cases e)⟩)
  case slice t x lo hi mx =>
    cases mx with
    | some _ => simp at h
    | none =>
      simp only at h
      split at h
      · split at h
        · split at h
          · rename_i hx
            have hkey := (res_row hx).1
            repeat' (split at h)
            all_goals first
              | (cases h; done)
              | (cases h; exact ⟨nofz rfl, (fun v k e hk => by cases e; exact opSV_key hkey hk), (fun ⟨_, e⟩ => by cases e), (fun ⟨_, _, e⟩ => by cases e), (fun ⟨_, _, e⟩ => by cases e), (fun ⟨_, _, e⟩ => by cases e)⟩)
          · rename_i hx
            have hkey := (res_sub hx).1
            repeat' (split at h)
            all_goals first
              | (cases h; done)
              | (cases h; exact ⟨nofz rfl, (fun v k e hk => by cases e; exact opSV_key hkey hk), (fun ⟨_, e⟩ => by cases e), (fun ⟨_, _, e⟩ => by cases e), (fun ⟨_, _, e⟩ => by cases e), (fun ⟨_, _, e⟩ => by cases e)⟩)
          all_goals
            repeat' (split at h)
            all_goals first
              | (cases h; done)
              | (cases h; exact ⟨nofz rfl, (fun v k e hk => by cases e; cases hk), (fun ⟨_, e⟩ => by cases e), (fun ⟨_, _, e⟩ => by cases e), (fun ⟨_, _, e⟩ => by cases e), (fun ⟨_, _, e⟩ => by cases e)⟩)
        · cases h
      · repeat' (split at h)
        all_goals first
          | (cases h; done)
          | (cases h; exact ⟨nofz rfl, (fun v k e hk => by cases e; cases hk), (fun ⟨_, e⟩ => by cases e), (fun ⟨_, _, e⟩ => by cases e), (fun ⟨_, _, e⟩ => by cases e), (fun ⟨_, _, e⟩ => by cases e)⟩)
      · cases h
  case indexAddr t x i =>
    repeat' (split at h)
    all_goals first
      | (cases h; done)
      | (rename_i hx _; have hkey := res_row hx; cases h; exact ⟨nofz rfl, (fun v k e hk => by cases e; exact opSV_key hkey.1 hk), (fun ⟨_, e⟩ => by cases e), (fun ⟨_, _, e⟩ => by cases e), (fun ⟨_, _, e⟩ => by cases e), (fun ⟨_, _, e⟩ => by cases e)⟩)
      | (rename_i hx _; have hkey := res_sub hx; cases h; exact ⟨nofz rfl, (fun v k e hk => by cases e; exact opSV_key hkey.1 hk), (fun ⟨_, e⟩ => by cases e), (fun ⟨_, _, e⟩ => by cases e), (fun ⟨_, _, e⟩ => by cases e), (fun ⟨_, _, e⟩ => by cases e)⟩)
      | (rename_i hx _; have hkey := res_ptr hx; cases h; exact ⟨nofz rfl, (fun v k e hk => by cases e; exact opSV_key hkey.1 hk), (fun ⟨_, e⟩ => by cases e), (fun ⟨_, _, e⟩ => by cases e), (fun ⟨_, _, e⟩ => by cases e), (fun ⟨_, _, e⟩ => by cases e)⟩)
      | (cases h; exact ⟨nofz rfl, (fun v k e hk => by cases e; cases hk), (fun ⟨_, e⟩ => by cases e), (fun ⟨_, _, e⟩ => by cases e), (fun ⟨_, _, e⟩ => by cases e), (fun ⟨_, _, e⟩ => by cases e)⟩)
  case call c =>
    obtain ⟨callee, args, ts⟩ := c
    cases callee with
    | builtin b =>
      simp only at h
      obtain ⟨h1, h2, h3, h4, h5⟩ := pbuiltin_key h
      refine ⟨h1, (fun v k e hk => by rw [h2 v e] at hk; cases hk), (fun ⟨b', e⟩ => absurd e (h3 b')), (fun ⟨k, b', e⟩ => absurd e (h4 k b')), (fun ⟨k, b', e⟩ => ?_), (fun ⟨f, as, e⟩ => absurd e (h5 f as))⟩
      subst e
      unfold pbuiltin at h
      split at h
      · repeat' (split at h)
        all_goals (cases h; done)
      · simp only [Option.map_eq_some_iff] at h
        obtain ⟨r, _, he⟩ := h
        cases he
      · simp only [Option.map_eq_some_iff] at h
        obtain ⟨r, _, he⟩ := h
        cases he
      · rfl
      · cases h
    | invoke r mm => simp at h
    | value f =>
      simp only at h
      split at h
      · rename_i g caps hf
        split at h
        · rename_i hmu
          split at h
          · rename_i _ g' rs hcl
            cases h
            have hgg : g' = g := by
              simp only [res, opSV, Option.bind_some, resSV, Option.some.injEq, RV.val.injEq, PV.clo.injEq] at hf
              exact hf.1
            subst hgg
            exact ⟨nofz rfl, (fun v k e => by cases e), (fun ⟨_, e⟩ => by cases e), (fun ⟨_, _, e⟩ => by cases e), (fun ⟨_, _, e⟩ => by cases e), (fun _ => ⟨hmu, rfl⟩)⟩
          · cases h
        · split at h
          · rename_i vs fz' hcl
            cases h
            exact ⟨closeL_key _ (fun r hr => by obtain ⟨p, _, rfl⟩ := List.mem_map.1 hr; exact ⟨p, rfl⟩) hcl, (fun v k e => by cases e), (fun ⟨_, e⟩ => by cases e), (fun ⟨_, _, e⟩ => by cases e), (fun ⟨_, _, e⟩ => by cases e), (fun ⟨_, _, e⟩ => by cases e)⟩
          · cases h
      · cases h

/-! ### What an operation leaves, in one form -/
def effσ (σ : Nat → Option (Bk × Bool)) (fz : List Nat) (u : Option (Nat × Bk)) : Nat → Option (Bk × Bool) :=
  match u with
  | none => frzσ σ fz
  | some (k, b) => updσ (frzσ σ fz) k (some (b, false))

def DOut (E : PE) (s : PS) (dst : Option Tmp) (fz : List Nat) (v : SV) (u : Option (Nat × Bk)) : Out → Prop
  | .val v' => v = v' ∧ u = none
  | .new b => ∃ d, dst = some d ∧ v = newSV d b ∧ u = some (d, b)
  | .st k b => (∃ b0, s.σ k = some (b0, false)) ∧ k ∉ fz ∧ v = .junk ∧ u = some (k, b)
  | .app .. => False
  | .inl .. => False
  | .call f args => ∃ r, PC E f args r ∧ v = .val r ∧ u = none

def Does (E : PE) (o : Oper) (s : PS) (v : SV) (fz : List Nat) (u : Option (Nat × Bk)) : Prop :=
  (isA o.op = true ∧ stepA E o.op (opSV E s.τ) = some v ∧ fz = [] ∧ u = none) ∨
  (isA o.op = false ∧ ∃ out, stepR E o.op (res E s.τ s.σ) = some (out, fz) ∧ DOut E s o.dst fz v u out)

def DoesI (E : PE) (ops : Array Oper) (o : Oper) (s : PS) (v : SV) (fz : List Nat) (u : Option (Nat × Bk)) : Prop :=
  match o.guard with
  | none => Does E o s v fz u
  | some (j, want) => ∃ b, gslot ops s.τ j = some b ∧ if b = some want then Does E o s v fz u else v = .val (.tuple []) ∧ fz = [] ∧ u = none

def leaves (s : PS) (o : Oper) (v : SV) (fz : List Nat) (u : Option (Nat × Bk)) : PS := ⟨putτ s.τ o.dst v, effσ s.σ fz u⟩

theorem does_of_step {o : Oper} (happ : isApp E.mu o.op = false) (h : StepP E o s s') : ∃ v fz u, Does E o s v fz u ∧ s' = leaves s o v fz u := by
  unfold StepP at h
  split at h
  · rename_i hA
    obtain ⟨v, hv, rfl⟩ := h
    exact ⟨v, [], none, .inl ⟨hA, hv, rfl, rfl⟩, by simp [leaves, effσ, frzσ_nil]⟩
  · rename_i hA
    obtain ⟨out, fz, hv, ha⟩ := h
    have hA' : isA o.op = false := by simpa using hA
    cases out with
    | val v => exact ⟨v, fz, none, .inr ⟨hA', _, hv, rfl, rfl⟩, ha⟩
    | new b => obtain ⟨d, hd, rfl⟩ := ha; exact ⟨_, fz, _, .inr ⟨hA', _, hv, d, hd, rfl, rfl⟩, rfl⟩
    | st k b => obtain ⟨h1, h2, rfl⟩ := ha; exact ⟨_, fz, _, .inr ⟨hA', _, hv, h1, h2, rfl, rfl⟩, rfl⟩
    | app k b => have := (stepR_key hv).2.2.2.2.1 ⟨k, b, rfl⟩; rw [happ] at this; cases this
    | inl f as => have := ((stepR_key hv).2.2.2.2.2 ⟨f, as, rfl⟩).1; rw [happ] at this; cases this
    | call f args => obtain ⟨r, h1, rfl⟩ := ha; exact ⟨_, fz, none, .inr ⟨hA', _, hv, r, h1, rfl, rfl⟩, rfl⟩

theorem step_of_does {o : Oper} {v : SV} {fz : List Nat} {u : Option (Nat × Bk)} (h : Does E o s v fz u) : StepP E o s (leaves s o v fz u) := by
  unfold StepP
  rcases h with ⟨hA, hv, rfl, rfl⟩ | ⟨hA, out, hv, hd⟩
  · rw [if_pos hA]; exact ⟨v, hv, by simp [leaves, effσ, frzσ_nil]⟩
  · rw [if_neg (by simp [hA])]
    refine ⟨out, fz, hv, ?_⟩
    cases out with
    | val v' => obtain ⟨rfl, rfl⟩ := hd; rfl
    | new b => obtain ⟨d, hdd, rfl, rfl⟩ := hd; exact ⟨d, hdd, rfl⟩
    | st k b => obtain ⟨h1, h2, rfl, rfl⟩ := hd; exact ⟨h1, h2, rfl⟩
    | app k b => exact hd.elim
    | inl f as => exact hd.elim
    | call f args => obtain ⟨r, h1, rfl, rfl⟩ := hd; exact ⟨r, h1, rfl⟩

theorem doesI_of_step {i : Nat} {o : Oper} (ho : ops[i]? = some o) (happ : isApp E.mu o.op = false) (h : StepI E ops i s s') : ∃ v fz u, DoesI E ops o s v fz u ∧ s' = leaves s o v fz u := by
  obtain ⟨o', ho', h⟩ := h
  rw [ho] at ho'; cases ho'
  unfold DoesI
  cases hg : o.guard with
  | none => simp only [hg] at h; exact does_of_step happ h
  | some gw =>
    obtain ⟨j, want⟩ := gw
    simp only [hg] at h
    obtain ⟨b, hb, h⟩ := h
    by_cases hbw : b = some want
    · simp only [hbw, if_true] at h
      obtain ⟨v, fz, u, hd, e⟩ := does_of_step happ h
      exact ⟨v, fz, u, ⟨b, hb, by simp only [hbw, if_true]; exact hd⟩, e⟩
    · simp only [hbw, if_false] at h
      exact ⟨.val (.tuple []), [], none, ⟨b, hb, by simp [hbw]⟩, by rw [h]; simp [leaves, effσ, frzσ_nil]⟩

theorem stepI_of_does {i : Nat} {o : Oper} (ho : ops[i]? = some o) {v : SV} {fz : List Nat} {u : Option (Nat × Bk)} (h : DoesI E ops o s v fz u) : StepI E ops i s (leaves s o v fz u) := by
  refine ⟨o, ho, ?_⟩
  unfold DoesI at h
  cases hg : o.guard with
  | none => simp only [hg] at h ⊢; exact step_of_does h
  | some gw =>
    obtain ⟨j, want⟩ := gw
    simp only [hg] at h ⊢
    obtain ⟨b, hb, h⟩ := h
    refine ⟨b, hb, ?_⟩
    by_cases hbw : b = some want
    · simp only [hbw, if_true] at h ⊢; exact step_of_does h
    · simp only [hbw, if_false] at h ⊢
      obtain ⟨rfl, rfl, rfl⟩ := h
      simp [leaves, effσ, frzσ_nil]

theorem does_fz {o : Oper} {v : SV} {fz : List Nat} {u : Option (Nat × Bk)} (h : DoesI E ops o s v fz u) : ∀ k ∈ fz, Ment s.τ k := by
  have key : Does E o s v fz u → ∀ k ∈ fz, Ment s.τ k := by
    rintro (⟨_, _, rfl, _⟩ | ⟨_, out, hv, _⟩)
    · intro k hk; cases hk
    · exact (stepR_key hv).1
  unfold DoesI at h
  split at h
  · exact key h
  · obtain ⟨b, _, h⟩ := h
    split at h
    · exact key h
    · rw [h.2.1]; intro k hk; cases hk

theorem does_new {o : Oper} {v : SV} {fz : List Nat} {k : Nat} {b : Bk} (h : DoesI E ops o s v fz (some (k, b))) (hst : isStore o.op = false) : isNew o.op = true ∧ o.dst = some k := by
  have key : Does E o s v fz (some (k, b)) → isNew o.op = true ∧ o.dst = some k := by
    rintro (⟨_, _, _, hu⟩ | ⟨_, out, hv, hd⟩)
    · cases hu
    · cases out with
      | val v' => cases hd.2
      | new b' => obtain ⟨d, hdd, _, hu⟩ := hd; cases hu; exact ⟨(stepR_key hv).2.2.1 ⟨_, rfl⟩, hdd⟩
      | st k' b' => have := (stepR_key hv).2.2.2.1 ⟨_, _, rfl⟩; rw [hst] at this; cases this
      | app k b => exact hd.elim
      | inl f as => exact hd.elim
      | call f args => obtain ⟨r, _, _, hu⟩ := hd; cases hu
  unfold DoesI at h
  split at h
  · exact key h
  · obtain ⟨b, _, h⟩ := h
    split at h
    · exact key h
    · cases h.2.2

/-- What an operation does hangs on its operands alone. -/
theorem does_transfer {o : Oper} {v : SV} {fz : List Nat} {u : Option (Nat × Bk)} (h : DoesI E ops o s v fz u) (hτ : ∀ t ∈ o.looksAt ops, s'.τ t = s.τ t)
    (hσ : isA o.op = true ∨ s'.σ = s.σ ∨ (isStore o.op = false ∧ ∀ k, (∃ x ∈ o.op.operands, ∃ y, opSV E s.τ x = some y ∧ y.key = some k) → (s'.σ k).map (·.1) = (s.σ k).map (·.1))) : DoesI E ops o s' v fz u := by
  have hsv : ∀ x ∈ o.op.operands, opSV E s'.τ x = opSV E s.τ x := by
    intro x hx
    cases x with
    | tmp t => exact hτ t (List.mem_append_left _ (List.mem_filterMap.2 ⟨.tmp t, by simpa using hx, rfl⟩))
    | _ => rfl
  have key : Does E o s v fz u → Does E o s' v fz u := by
    rintro (⟨hA, hv, h1, h2⟩ | ⟨hA, out, hv, hd⟩)
    · exact .inl ⟨hA, by rw [stepA_congr hsv]; exact hv, h1, h2⟩
    · rcases hσ with hA' | hσ
      · rw [hA] at hA'; cases hA'
      · have hres : ∀ x ∈ o.op.operands, res E s'.τ s'.σ x = res E s.τ s.σ x := by
          intro x hx
          unfold res
          rw [hsv x hx]
          cases hvx : opSV E s.τ x with
          | none => rfl
          | some y =>
            simp only [Option.bind_some]
            rcases hσ with hσ | ⟨_, hσ⟩
            · rw [hσ]
            · have hmap : ∀ (f : Bk → RV) k, y.key = some k → (s'.σ k).map (fun b => f b.1) = (s.σ k).map (fun b => f b.1) := by
                intro f k hk
                have := congrArg (Option.map f) (hσ k ⟨x, hx, y, hvx, hk⟩)
                simpa [Function.comp_def] using this
              cases y with
              | row k => exact hmap (RV.row k) k rfl
              | ptr k o => exact hmap (RV.ptr k o) k rfl
              | sub k o n => exact hmap (RV.sub k o n) k rfl
              | _ => rfl
        refine .inr ⟨hA, out, by rw [stepR_congr hres]; exact hv, ?_⟩
        cases out with
        | val v' => exact hd
        | new b => exact hd
        | st k b =>
          obtain ⟨h1, h2⟩ := hd
          rcases hσ with hσ | ⟨hst, _⟩
          · exact ⟨by rw [hσ]; exact h1, h2⟩
          · have := (stepR_key hv).2.2.2.1 ⟨_, _, rfl⟩; rw [hst] at this; cases this
        | app k b => exact hd
        | inl f as => exact hd
        | call f args => exact hd
  unfold DoesI at h ⊢
  cases hg : o.guard with
  | none => simp only [hg] at h ⊢; exact key h
  | some gw =>
    obtain ⟨j, want⟩ := gw
    simp only [hg] at h ⊢
    obtain ⟨b, hb, h⟩ := h
    refine ⟨b, ?_, ?_⟩
    · unfold gslot at hb ⊢
      cases ht : (ops[j]?).bind (·.dst) with
      | none => simp [ht] at hb
      | some t =>
        simp only [ht] at hb ⊢
        rw [hτ t (List.mem_append_right _ (by simp [hg, ht]))]
        exact hb
    · split at h
      · rename_i e; rw [if_pos e]; exact key h
      · rename_i e; rw [if_neg e]; exact h

theorem putτ_comm {τ : Nat → Option SV} {d1 d2 : Option Tmp} {v1 v2 : SV} (h : ∀ d, d1 = some d → d2 ≠ some d) : putτ (putτ τ d1 v1) d2 v2 = putτ (putτ τ d2 v2) d1 v1 := by
  cases d1 with
  | none => rfl
  | some a => cases d2 with
    | none => rfl
    | some b =>
      have hne : b ≠ a := fun e => h a rfl (by rw [e])
      funext t
      simp only [putτ]
      by_cases h1 : t = b <;> by_cases h2 : t = a <;> simp_all

theorem effσ_nil (σ : Nat → Option (Bk × Bool)) : effσ σ [] none = σ := frzσ_nil σ

theorem effσ_at {σ : Nat → Option (Bk × Bool)} {fz : List Nat} {u : Option (Nat × Bk)} {k : Nat} (h : ∀ b, u ≠ some (k, b)) : (effσ σ fz u k).map (·.1) = (σ k).map (·.1) := by
  have hf : (frzσ σ fz k).map (·.1) = (σ k).map (·.1) := by
    unfold frzσ; split <;> simp [Function.comp_def]
  cases u with
  | none => exact hf
  | some kb =>
    obtain ⟨d, b⟩ := kb
    have hne : k ≠ d := fun e => h b (by rw [e])
    simp only [effσ, updσ, hne, if_false]
    exact hf

theorem effσ_comm {σ : Nat → Option (Bk × Bool)} {f1 f2 : List Nat} {u1 u2 : Option (Nat × Bk)} (h12 : ∀ k b b', u1 = some (k, b) → u2 ≠ some (k, b')) (h1 : ∀ k b, u1 = some (k, b) → k ∉ f2) (h2 : ∀ k b, u2 = some (k, b) → k ∉ f1) :
    effσ (effσ σ f1 u1) f2 u2 = effσ (effσ σ f2 u2) f1 u1 := by
  have hf : ∀ (σ : Nat → Option (Bk × Bool)), frzσ (frzσ σ f1) f2 = frzσ (frzσ σ f2) f1 := by
    intro σ; funext k; unfold frzσ
    by_cases a1 : k ∈ f1 <;> by_cases a2 : k ∈ f2 <;> simp [a1, a2]
  have hu : ∀ (σ : Nat → Option (Bk × Bool)) (fz : List Nat) (k : Nat) (b : Option (Bk × Bool)), k ∉ fz → frzσ (updσ σ k b) fz = updσ (frzσ σ fz) k b := by
    intro σ fz k b hk; funext j; unfold frzσ updσ
    by_cases hj : j = k
    · subst hj; simp [hk]
    · simp [hj]
  have huu : ∀ (σ : Nat → Option (Bk × Bool)) (k j : Nat) (b c : Option (Bk × Bool)), k ≠ j → updσ (updσ σ k b) j c = updσ (updσ σ j c) k b := by
    intro σ k j b c hne; funext i; unfold updσ
    by_cases e1 : i = k <;> by_cases e2 : i = j <;> simp_all
  cases u1 with
  | none => cases u2 with
    | none => exact hf σ
    | some kb => obtain ⟨k, b⟩ := kb; simp only [effσ]; rw [hu _ _ _ _ (h2 k b rfl), hf]
  | some kb =>
    obtain ⟨k, b⟩ := kb
    cases u2 with
    | none => simp only [effσ]; rw [hu _ _ _ _ (h1 k b rfl), hf]
    | some jb =>
      obtain ⟨j, c⟩ := jb
      have hne : k ≠ j := fun e => h12 k b c rfl (by rw [e])
      simp only [effσ]
      rw [hu _ _ _ _ (h1 k b rfl), hu _ _ _ _ (h2 j c rfl), hf, huu _ _ _ _ _ hne]

def compat (mu : Nat → Bool) (ops : Array Oper) (x y : Oper) : Bool :=
  x.apart ops y && !isApp mu x.op && !isApp mu y.op && (isA x.op || isA y.op || (!isStore x.op && !isStore y.op))

theorem not_store_of_A {op : Op} (h : isA op = true) : isStore op = false := by cases op <;> simp_all [isA, isStore]

theorem putτ_apart {τ : Nat → Option SV} {dst : Option Tmp} {v : SV} {t : Nat} (h : ∀ d, dst = some d → t ≠ d) : putτ τ dst v t = τ t := by
  cases dst with
  | none => rfl
  | some d => simp only [putτ, h d rfl, if_false]

theorem commute {e i : Nat} {x y : Oper} (hx : ops[e]? = some x) (hy : ops[i]? = some y) (hc : compat E.mu ops x y = true)
    (nx : isNew x.op = true → ∀ d, x.dst = some d → ¬ Ment s.τ d) (ny : isNew y.op = true → ∀ d, y.dst = some d → ¬ Ment s.τ d)
    (h1 : StepI E ops e s s1) (h2 : StepI E ops i s1 s2) : ∃ s3, StepI E ops i s s3 ∧ StepI E ops e s3 s2 := by
  simp only [compat, Bool.and_eq_true, Bool.not_eq_true', Bool.or_eq_true] at hc
  obtain ⟨⟨⟨hap, hxa⟩, hya⟩, hcls⟩ := hc
  obtain ⟨a1, a2, a3⟩ := Oper.apart_spec hap
  obtain ⟨v1, f1, u1, d1, rfl⟩ := doesI_of_step hx hxa h1
  obtain ⟨v2, f2, u2, d2, rfl⟩ := doesI_of_step hy hya h2
  have hA : ∀ {o : Oper} {s : PS} {v : SV} {fz : List Nat} {u : Option (Nat × Bk)}, isA o.op = true → DoesI E ops o s v fz u → fz = [] ∧ u = none := by
    intro o s v fz u hA h
    have key : Does E o s v fz u → fz = [] ∧ u = none := by
      rintro (⟨_, _, h1, h2⟩ | ⟨h0, _⟩)
      · exact ⟨h1, h2⟩
      · rw [hA] at h0; cases h0
    unfold DoesI at h
    split at h
    · exact key h
    · obtain ⟨b, _, h⟩ := h
      split at h
      · exact key h
      · exact h.2
  have opx : ∀ {o : Oper} {τ : Nat → Option SV} {dst : Option Tmp} {v : SV}, (∀ d, dst = some d → d ∉ o.looksAt ops) → ∀ z ∈ o.op.operands, opSV E (putτ τ dst v) z = opSV E τ z := by
    intro o τ dst v h z hz
    cases z with
    | tmp t => exact putτ_apart (fun d hd e => h d hd (by rw [← e]; exact List.mem_append_left _ (List.mem_filterMap.2 ⟨.tmp t, by simpa using hz, rfl⟩)))
    | _ => rfl
  -- what y does, it does ahead of x as well
  have d2' : DoesI E ops y s v2 f2 u2 := by
    refine does_transfer d2 (fun t ht => (putτ_apart (fun d hd e => a1 d hd (by rw [← e]; exact ht))).symm) ?_
    rcases hcls with (hcls | hcls) | ⟨hsx, hsy⟩
    · obtain ⟨rfl, rfl⟩ := hA hcls d1
      exact .inr (.inl (effσ_nil _).symm)
    · exact .inl hcls
    · refine .inr (.inr ⟨hsy, fun k ⟨z, hz, sv, hsv, hk⟩ => ?_⟩)
      simp only [leaves] at hsv
      rw [opx a1 z hz] at hsv
      refine (effσ_at fun b hu => ?_).symm
      subst hu
      obtain ⟨hn, hd⟩ := does_new d1 hsx
      exact nx hn k hd (opSV_key hsv hk)
  refine ⟨leaves s y v2 f2 u2, stepI_of_does hy d2', ?_⟩
  have d1' : DoesI E ops x (leaves s y v2 f2 u2) v1 f1 u1 := by
    refine does_transfer d1 (fun t ht => putτ_apart (fun d hd e => a3 d hd (by rw [← e]; exact ht))) ?_
    rcases hcls with (hcls | hcls) | ⟨hsx, hsy⟩
    · exact .inl hcls
    · obtain ⟨rfl, rfl⟩ := hA hcls d2
      exact .inr (.inl (effσ_nil _))
    · refine .inr (.inr ⟨hsx, fun k ⟨z, hz, sv, hsv, hk⟩ => effσ_at fun b hu => ?_⟩)
      subst hu
      obtain ⟨hn, hd⟩ := does_new d2' hsy
      exact ny hn k hd (opSV_key hsv hk)
  have he : leaves (leaves s x v1 f1 u1) y v2 f2 u2 = leaves (leaves s y v2 f2 u2) x v1 f1 u1 := by
    unfold leaves
    simp only
    rw [putτ_comm a2]
    congr 1
    rcases hcls with (hcls | hcls) | ⟨hsx, hsy⟩
    · obtain ⟨rfl, rfl⟩ := hA hcls d1
      rw [effσ_nil, effσ_nil]
    · obtain ⟨rfl, rfl⟩ := hA hcls d2
      rw [effσ_nil, effσ_nil]
    · refine effσ_comm (fun k b b' e1 e2 => ?_) (fun k b e1 hk => ?_) (fun k b e2 hk => ?_)
      · subst e1; subst e2
        exact a2 k (does_new d1 hsx).2 (does_new d2' hsy).2
      · subst e1
        obtain ⟨hn, hd⟩ := does_new d1 hsx
        exact nx hn k hd (does_fz d2' k hk)
      · subst e2
        obtain ⟨hn, hd⟩ := does_new d2' hsy
        exact ny hn k hd (does_fz d1 k hk)
  rw [he]
  exact stepI_of_does hx d1'
end
end PG
