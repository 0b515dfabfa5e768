/- THE PURE READING OF A GO FUNCTION, 11: the pure walk through a function's code, and that what it shows is the function's contract. -/
import Derived.Test.YtflpcgcgeffolaaDoorPgJ
set_option linter.unusedVariables false
set_option linter.unusedSimpArgs false
namespace PG
open Go Go.RowKit

def sget {α : Type} : List (Nat × α) → Nat → Option α
  | [], _ => none
  | (k, v) :: r, t => if t = k then some v else sget r t

/-- A pure state written out. -/
structure ES where
  τ : List (Nat × SV)
  σ : List (Nat × (Bk × Bool))

def ES.den (s : ES) : PS := ⟨sget s.τ, sget s.σ⟩

def ES.put (s : ES) (dst : Option Tmp) (v : SV) : ES :=
  match dst with
  | some d => ⟨(d, v) :: s.τ, s.σ⟩
  | none => s

def frzL (σ : List (Nat × (Bk × Bool))) (fz : List Nat) : List (Nat × (Bk × Bool)) :=
  match fz with
  | [] => σ
  | _ => σ.map fun p => if p.1 ∈ fz then (p.1, (p.2.1, true)) else p

def kill1 (ks : List Nat) (p : Nat × SV) : Nat × SV :=
  match p.2.key with
  | some k => if k ∈ ks then (p.1, .junk) else p
  | none => p

def killL (τ : List (Nat × SV)) (ks : List Nat) : List (Nat × SV) :=
  match ks with
  | [] => τ
  | _ => τ.map (kill1 ks)

def eraL (σ : List (Nat × (Bk × Bool))) (k : Nat) : List (Nat × (Bk × Bool)) := σ.filter fun p => decide (p.1 ≠ k)

def pif (b : Bool) (X Y : Prop) : Prop := (b = true → X) ∧ (b = false → Y)

/-- A call: its contract, and what follows with its result. -/
def PCW (E : PE) (f : FuncId) (args : List PV) (K : PV → Prop) : Prop := ∃ r, PC E f args r ∧ K r

def pval {α : Type} (v : Option α) (K : α → Prop) : Prop :=
  match v with
  | some v => K v
  | none => False

def pbool (v : Option SV) (T F : Prop) : Prop :=
  match v with
  | some (.val (.bool b)) => pif b T F
  | _ => False

/-- A block that is still the call's own alone. -/
def pfree (b : Option (Bk × Bool)) (K : Prop) : Prop :=
  match b with
  | some (_, false) => K
  | _ => False

def eraO (σ : List (Nat × (Bk × Bool))) : Option Nat → List (Nat × (Bk × Bool))
  | some d => eraL σ d
  | none => σ

/-- A call that may write what it is handed: its contract, at the blocks 'ks', and what follows. -/
def PIW (E : PE) (s : ES) (dst : Option Tmp) (f : FuncId) (args : List SV) (K : ES → Prop) : Prop :=
  ∃ (ks : List Nat) (cargs : List SV) (bs bs' : List Bk) (r : SV), PCM E f cargs bs r bs' ∧ args = cargs.map (ren ks) ∧ ks.Nodup ∧ ks.length = bs.length ∧
    (∀ (i : Nat) (b : Bk) (k : Nat), bs[i]? = some b → ks[i]? = some k → sget s.σ k = some (b, false)) ∧ (∀ d, dst = some d → d ∉ ks) ∧ (dst = none → bs'.length = bs.length) ∧
    K ((⟨killL s.τ dst.toList, (ks ++ dst.toList).zip (bs'.map fun b => (b, false)) ++ eraO s.σ dst⟩ : ES).put dst (ren (ks ++ dst.toList) r))

def pcont (E : PE) (s : ES) (dst : Option Tmp) (fz : List Nat) (K : ES → Prop) : Out → Prop
  | .val v => K ((⟨s.τ, frzL s.σ fz⟩ : ES).put dst v)
  | .new b => pval dst fun d => K ⟨(d, newSV d b) :: s.τ, (d, (b, false)) :: frzL s.σ fz⟩
  | .st k b => pfree (sget s.σ k) (k ∉ fz ∧ K ((⟨s.τ, (k, (b, false)) :: frzL s.σ fz⟩ : ES).put dst .junk))
  | .app none b => pval dst fun d => K ⟨(d, .row d) :: killL s.τ [d], (d, (b, false)) :: frzL s.σ fz⟩
  | .app (some j) b => pval dst fun d => pfree (sget s.σ j) (j ∉ fz ∧ K ⟨(d, .row d) :: killL s.τ [d], (d, (b, false)) :: eraL (frzL s.σ fz) j⟩)
  | .call f args => PCW E f args fun r => K ((⟨s.τ, frzL s.σ fz⟩ : ES).put dst (.val r))
  | .inl f args => PIW E s dst f args K

def pstep (E : PE) (o : Oper) (s : ES) (K : ES → Prop) : Prop :=
  if isA o.op = true then pval (stepA E o.op (opSV E (sget s.τ))) fun v => K (s.put o.dst v)
  else pval (stepR E o.op (res E (sget s.τ) (sget s.σ))) fun p => pcont E s o.dst p.2 K p.1

def gdst : List Oper → Nat → Option Tmp
  | [], _ => none
  | o :: _, 0 => o.dst
  | _ :: l, n + 1 => gdst l n

/-- A guard's slot: it holds true, false; it was passed over. -/
def pgs (v : Option SV) (T F U : Prop) : Prop := match v with
  | some (.val (.tuple [])) => U
  | v => pbool v T F
theorem pgs_spec {v : Option SV} {T F U : Prop} (h : pgs v T F U) : (v = some (.val (.tuple [])) ∧ U) ∨ pbool v T F := by
  unfold pgs at h
  split at h
  · exact .inl ⟨rfl, h⟩
  · exact .inr h

/-- An operation under its guard: w: the guard's own slot holds what is wanted. -/
def pgrd (w : Bool) (X Y : Prop) : Prop := if w = true then X else Y

def pops (E : PE) (ops : List Oper) : List Oper → ES → (ES → Prop) → Prop
  | [], s, K => K s
  | o :: rest, s, K => match o.guard with
    | none => pstep E o s fun s' => pops E ops rest s' K
    | some (j, want) => pval (gdst ops j) fun t => pgs (sget s.τ t)
        (pgrd want (pstep E o (s.put (some t) (.val (.bool true))) fun s' => pops E ops rest s' K) (pops E ops rest ((s.put (some t) (.val (.bool true))).put o.dst (.val (.tuple []))) K))
        (pgrd want (pops E ops rest ((s.put (some t) (.val (.bool false))).put o.dst (.val (.tuple []))) K) (pstep E o (s.put (some t) (.val (.bool false))) fun s' => pops E ops rest s' K))
        (pops E ops rest ((s.put (some t) (.val (.tuple []))).put o.dst (.val (.tuple []))) K)

def newDsts : List Oper → List Nat
  | [] => []
  | o :: r => if isNew o.op = true then o.dst.toList ++ newDsts r else newDsts r

/-- No loop over a function within. -/
def noRange : Code → Bool
  | .seq a b => noRange a && noRange b
  | .cond _ a b => noRange a && noRange b
  | .block _ c => noRange c
  | .loop c => noRange c
  | .rangeFunc _ _ _ _ => false
  | _ => true

def codeOk (mu : Nat → Bool) (N : Nat) : Code → Bool
  | .region _ ops draw => dstsOk N ops && distinct mu ops && (!draw || drawOk mu ops (mkTab ops))
  | .seq a b => codeOk mu N a && codeOk mu N b
  | .cond _ a b => codeOk mu N a && codeOk mu N b
  | .block _ c => codeOk mu N c
  | .loop c => codeOk mu N c
  | .rangeFunc _ _ x y => codeOk mu N x && codeOk mu N y && noRange x && noRange y
  | _ => true

def lift (E : PE) (N : Nat) (wk : Gh) (w0 : Fm) (Pr0 : Nat → Nat → Prop) (Q : Exit → ES → Prop) : Exit → Act → World → Prop :=
  fun e a w => ∃ s m Pr, Q e s ∧ Rel E N wk w0 Pr0 s.den m Pr a w

/-- From every frame and world that stand to this pure state the code comes to an end as 'Q' says. -/
def PSem (E : PE) (N : Nat) (r : Option Nat) (c : Code) (Q : Exit → ES → Prop) (s : ES) : Prop :=
  ∀ wk w0 Pr0 m Pr a w, Rel E N wk w0 Pr0 s.den m Pr a w → c.wpIn (RF r) 0 E.P (lift E N wk w0 Pr0 Q) a w

def PLoop (E : PE) (N : Nat) (c : Code) (Q : Exit → ES → Prop) (s : ES) : Prop := codeOk E.mu N c = true → E.P.follows .mixedOrders = true → ∀ r : Option Nat, (r = none ∨ noRange c = true) → PSem E N r (.loop c) Q s

/-- A loop over a function: it stands in no round. -/
def PRange (E : PE) (N : Nat) (f : Operand) (ps : Array Tmp) (x y : Code) (Q : Exit → ES → Prop) (s : ES) : Prop :=
  codeOk E.mu N x = true → codeOk E.mu N y = true → noRange x = true → noRange y = true → E.P.follows .mixedOrders = true → PSem E N none (.rangeFunc f ps x y) Q s

def pseq (K : ES → Prop) (Q : Exit → ES → Prop) : Exit → ES → Prop
  | .normal, s => K s
  | e, s => Q e s

def pblk (id : Nat) (Q : Exit → ES → Prop) : Exit → ES → Prop
  | .exit i, s => if i = id then Q .normal s else Q (.exit i) s
  | e, s => Q e s

def setB (s : ES) (c : Operand) (b : Bool) : ES :=
  match c with
  | .tmp t => ⟨(t, .val (.bool b)) :: s.τ, s.σ⟩
  | _ => s

def pcond (E : PE) (c : Operand) (s : ES) (X Y : ES → Prop) : Prop :=
  pbool (opSV E (sget s.τ) c) (X (setB s c true)) (Y (setB s c false))

/-- THE PURE WALK. -/
def pexec (E : PE) (N : Nat) : Code → (Exit → ES → Prop) → ES → Prop
  | .skip, Q, s => Q .normal s
  | .region _ ops _, Q, s => pops E ops.toList ops.toList ⟨killL s.τ (newDsts ops.toList), s.σ⟩ (Q .normal)
  | .seq a b, Q, s => pexec E N a (pseq (pexec E N b Q) Q) s
  | .cond c x y, Q, s => pcond E c s (pexec E N x Q) (pexec E N y Q)
  | .block id c, Q, s => pexec E N c (pblk id Q) s
  | .loop c, Q, s => PLoop E N c Q s
  | .exit id, Q, s => Q (.exit id) s
  | .ret, Q, s => Q .ret s
  | .rangeFunc f ps x y, Q, s => PRange E N f ps x y Q s
  | _, _, _ => False

section
variable {E : PE} {N : Nat} {wk : Gh} {w0 : Fm} {Pr0 : Nat → Nat → Prop}

theorem den_put (s : ES) (dst : Option Tmp) (v : SV) : (s.put dst v).den = ⟨putτ s.den.τ dst v, s.den.σ⟩ := by
  cases dst <;> rfl

theorem get_frz (fz : List Nat) : ∀ (σ : List (Nat × (Bk × Bool))), sget (frzL σ fz) = frzσ (sget σ) fz := by
  intro σ
  funext k
  cases fz with
  | nil => simp [frzL, frzσ]
  | cons a l =>
    simp only [frzL]
    induction σ with
    | nil => simp [sget, frzσ]
    | cons p r ih =>
      obtain ⟨j, b⟩ := p
      simp only [List.map_cons]
      by_cases hj : j ∈ a :: l
      · rw [if_pos hj]
        simp only [sget, frzσ]
        by_cases hk : k = j
        · subst hk; simp [hj]
        · simp only [hk, if_false]
          rw [ih]; rfl
      · rw [if_neg hj]
        simp only [sget, frzσ]
        by_cases hk : k = j
        · subst hk; simp [hj]
        · simp only [hk, if_false]
          rw [ih]; rfl

theorem get_kill (ks : List Nat) : ∀ (τ : List (Nat × SV)), sget (killL τ ks) = killτ (sget τ) ks := by
  intro τ
  funext t
  cases ks with
  | nil =>
    simp only [killL, killτ]
    cases sget τ t with
    | none => rfl
    | some v => cases hk : v.key <;> simp [hk]
  | cons a l =>
    simp only [killL]
    induction τ with
    | nil => rfl
    | cons p r ih =>
      obtain ⟨j, v⟩ := p
      simp only [List.map_cons, kill1]
      cases hv : v.key with
      | none =>
        simp only [sget, killτ]
        by_cases ht : t = j
        · subst ht; simp [hv]
        · simp only [ht, if_false]; rw [ih]; rfl
      | some k =>
        simp only
        by_cases hk : k ∈ a :: l
        · rw [if_pos hk]
          simp only [sget, killτ]
          by_cases ht : t = j
          · subst ht; simp only [if_true, hv]; rw [if_pos hk]
          · simp only [ht, if_false]; rw [ih]; rfl
        · rw [if_neg hk]
          simp only [sget, killτ]
          by_cases ht : t = j
          · subst ht; simp only [if_true, hv]; rw [if_neg hk]
          · simp only [ht, if_false]; rw [ih]; rfl

theorem get_era (k : Nat) : ∀ (σ : List (Nat × (Bk × Bool))), sget (eraL σ k) = updσ (sget σ) k none := by
  intro σ
  funext j
  unfold eraL
  induction σ with
  | nil => simp [sget, updσ]
  | cons p r ih =>
    obtain ⟨i, b⟩ := p
    rw [List.filter_cons]
    by_cases hi : i = k
    · subst hi
      simp only [ne_eq, not_true, decide_false, Bool.false_eq_true, if_false]
      rw [ih]
      simp only [updσ, sget]
      by_cases hj : j = i <;> simp [hj]
    · simp only [ne_eq, hi, not_false_eq_true, decide_true, if_true, sget, updσ]
      by_cases hj : j = i
      · subst hj; simp [hi]
      · simp only [hj, if_false]; rw [ih]; rfl

theorem get_cons {α : Type} (k : Nat) (v : α) (r : List (Nat × α)) (t : Nat) : sget ((k, v) :: r) t = if t = k then some v else sget r t := rfl

theorem get_cons_upd (σ : List (Nat × (Bk × Bool))) (k : Nat) (b : Bk × Bool) : sget ((k, b) :: σ) = updσ (sget σ) k (some b) := by
  funext j; rfl

theorem get_ovr (σ : List (Nat × (Bk × Bool))) : ∀ (l : List (Nat × (Bk × Bool))), sget (l ++ σ) = ovr (sget σ) l
  | [] => rfl
  | (k, b) :: l => by
    rw [List.cons_append, get_cons_upd, get_ovr σ l]
    rfl

theorem pval_spec {α : Type} {v : Option α} {K : α → Prop} (h : pval v K) : ∃ x, v = some x ∧ K x := by
  cases v with
  | none => exact h.elim
  | some x => exact ⟨x, rfl, h⟩

theorem pbool_spec {v : Option SV} {T F : Prop} (h : pbool v T F) : ∃ b, v = some (.val (.bool b)) ∧ pif b T F := by
  unfold pbool at h
  split at h
  · exact ⟨_, rfl, h⟩
  · exact h.elim

theorem pfree_spec {b : Option (Bk × Bool)} {K : Prop} (h : pfree b K) : (∃ b0, b = some (b0, false)) ∧ K := by
  unfold pfree at h
  split at h
  · exact ⟨⟨_, rfl⟩, h⟩
  · exact h.elim

theorem gdst_eq : ∀ (l : List Oper) (j : Nat), gdst l j = (l[j]?).bind (·.dst)
  | [], _ => by simp [gdst]
  | o :: l, 0 => by simp [gdst]
  | o :: l, n + 1 => by simp only [gdst, List.getElem?_cons_succ]; exact gdst_eq l n

theorem pstep_trace {o : Oper} {s : ES} {K : ES → Prop} (h : pstep E o s K) : ∃ s' : ES, StepP E o s.den s'.den ∧ K s' := by
  unfold pstep at h
  unfold StepP
  split at h
  · rename_i hA
    simp only [hA, if_true]
    obtain ⟨v, hv, h⟩ := pval_spec h
    exact ⟨_, ⟨v, hv, den_put s o.dst v⟩, h⟩
  · rename_i hA
    simp only [hA, Bool.false_eq_true, if_false]
    obtain ⟨⟨out, fz⟩, hv, h⟩ := pval_spec h
    have hfz : (⟨s.τ, frzL s.σ fz⟩ : ES).den = ⟨s.den.τ, frzσ s.den.σ fz⟩ := by simp only [ES.den, get_frz]
    cases out with
    | val v =>
      exact ⟨_, ⟨_, fz, hv, by rw [den_put, hfz]; rfl⟩, h⟩
    | new b =>
      obtain ⟨d, hd, h⟩ := pval_spec h
      exact ⟨_, ⟨_, fz, hv, d, hd, by rw [hd]; simp only [ES.den, get_cons_upd, get_frz]; rfl⟩, h⟩
    | st k b =>
      obtain ⟨⟨b0, hk⟩, hkf, h⟩ := pfree_spec h
      exact ⟨_, ⟨_, fz, hv, ⟨b0, hk⟩, hkf, by rw [den_put]; simp only [ES.den, get_cons_upd, get_frz]⟩, h⟩
    | app k b =>
      cases k with
      | none =>
        obtain ⟨d, hd, h⟩ := pval_spec h
        exact ⟨_, ⟨_, fz, hv, d, hd, (fun j hj => by cases hj), by rw [hd]; simp only [ES.den, get_cons_upd, get_frz, eraseσ]; simp only [← get_kill]; rfl⟩, h⟩
      | some j =>
        obtain ⟨d, hd, h⟩ := pval_spec h
        obtain ⟨⟨b0, hk⟩, hkf, h⟩ := pfree_spec h
        exact ⟨_, ⟨_, fz, hv, d, hd, (fun i hi => by cases hi; exact ⟨⟨b0, hk⟩, hkf⟩), by rw [hd]; simp only [ES.den, get_cons_upd, get_era, get_frz, eraseσ]; simp only [← get_kill]; rfl⟩, h⟩
    | inl f args =>
      have hfz0 : fz = [] := ((stepR_key hv).2.2.2.2.2 ⟨f, args, rfl⟩).2
      subst hfz0
      obtain ⟨ks, cargs, bs, bs', r, hpc, hargs, hnd, hkl, hblk, hdk, hd0, h⟩ := h
      refine ⟨_, ⟨_, [], hv, ks, cargs, bs, bs', r, hpc, rfl, hargs, hnd, hkl, hblk, hdk, hd0, ?_⟩, h⟩
      rw [den_put]
      congr 1
      · simp only [ES.den, get_kill]
      · simp only [ES.den, get_ovr]
        congr 1
        cases o.dst with
        | none => rfl
        | some d => exact get_era d s.σ
    | call f args =>
      obtain ⟨r, hpc, h⟩ := h
      exact ⟨_, ⟨_, fz, hv, r, hpc, by rw [den_put, hfz]⟩, h⟩

theorem put_same (s : ES) (t : Tmp) (v : SV) (h : sget s.τ t = some v) : (s.put (some t) v).den = s.den := by
  unfold ES.den ES.put
  congr 1
  funext j
  simp only [sget]
  split
  · rename_i e; subst e; exact h.symm
  · rfl

theorem pops_trace {ops : Array Oper} {K : ES → Prop} : ∀ (rest : List Oper) (k : Nat) (s : ES), (∀ j, rest[j]? = ops[k + j]?) → pops E ops.toList rest s K → ∃ s' : ES, Trace E ops (List.range' k rest.length) s.den s'.den ∧ K s'
  | [], k, s, _, h => ⟨s, rfl, h⟩
  | o :: rest, k, s, hl, h => by
    have h0 : ops[k]? = some o := by simpa using (hl 0).symm
    have hl' : ∀ j, rest[j]? = ops[k + 1 + j]? := fun j => by have := hl (j + 1); simpa [Nat.add_assoc, Nat.add_comm 1 j] using this
    have done : ∀ (s0 s1 : ES), s0.den = s.den → StepI E ops k s0.den s1.den → pops E ops.toList rest s1 K → ∃ s' : ES, Trace E ops (List.range' k (o :: rest).length) s.den s'.den ∧ K s' := by
      intro s0 s1 he hst hp
      obtain ⟨s', ht, hk⟩ := pops_trace rest (k + 1) s1 hl' hp
      exact ⟨s', by simp only [List.length_cons, List.range'_succ]; exact ⟨s1.den, he ▸ hst, ht⟩, hk⟩
    simp only [pops] at h
    split at h
    · rename_i hg
      obtain ⟨s1, hst, hp⟩ := pstep_trace h
      exact done s s1 rfl ⟨o, h0, by simp only [hg]; exact hst⟩ hp
    · rename_i j want hg
      obtain ⟨t, ht, h⟩ := pval_spec h
      have ht' : (ops[j]?).bind (·.dst) = some t := by
        rw [gdst_eq] at ht
        simpa using ht
      rcases pgs_spec h with ⟨hb, h1⟩ | h
      · have he := put_same s t _ hb
        exact done _ _ he ⟨o, h0, by simp only [hg]; exact ⟨none, by rw [he]; simp only [gslot, ht', ES.den, hb], by rw [if_neg (by simp)]; exact den_put _ _ _⟩⟩ h1
      obtain ⟨b, hb, hT, hF⟩ := pbool_spec h
      have hgs : ∀ (s0 : ES), s0.den = s.den → gslot ops s0.den.τ j = some (some b) := by
        intro s0 he
        rw [he]
        simp only [gslot, ht', ES.den, hb]
      have he := put_same s t _ hb
      cases b with
      | true =>
        have h1 := hT rfl
        unfold pgrd at h1
        split at h1
        · rename_i hw
          obtain ⟨s1, hst, hp⟩ := pstep_trace h1
          exact done _ s1 he ⟨o, h0, by simp only [hg]; exact ⟨some true, hgs _ he, by simp only [hw, if_true]; exact hst⟩⟩ hp
        · rename_i hw
          have hw' : want = false := by simpa using hw
          exact done _ _ he ⟨o, h0, by simp only [hg]; exact ⟨some true, hgs _ he, by rw [if_neg (by simp [hw'])]; exact den_put _ _ _⟩⟩ h1
      | false =>
        have h1 := hF rfl
        unfold pgrd at h1
        split at h1
        · rename_i hw
          exact done _ _ he ⟨o, h0, by simp only [hg]; exact ⟨some false, hgs _ he, by rw [if_neg (by simp [hw])]; exact den_put _ _ _⟩⟩ h1
        · rename_i hw
          have hw' : want = false := by simpa using hw
          obtain ⟨s1, hst, hp⟩ := pstep_trace h1
          exact done _ s1 he ⟨o, h0, by simp only [hg]; exact ⟨some false, hgs _ he, by simp only [hw', if_true]; exact hst⟩⟩ hp

theorem newDsts_mem {o : Oper} {d : Nat} (hn : isNew o.op = true) (hd : o.dst = some d) : ∀ {l : List Oper}, o ∈ l → d ∈ newDsts l
  | [], h => by cases h
  | x :: l, h => by
    simp only [newDsts]
    rcases List.mem_cons.1 h with rfl | h
    · simp [hn, hd]
    · have := newDsts_mem hn hd h
      split
      · exact List.mem_append_right _ this
      · exact this

theorem PSem.mono {c : Code} {Q Q' : Exit → ES → Prop} {s : ES} {r : Option Nat} (h : PSem E N r c Q s) (hq : ∀ e s, Q e s → Q' e s) : PSem E N r c Q' s :=
  fun wk w0 Pr0 m Pr a w hr => wpIn_mono (h wk w0 Pr0 m Pr a w hr) fun e _ _ ⟨s', m', Pr', h1, h2⟩ => ⟨s', m', Pr', hq e s' h1, h2⟩

theorem pexec_sound (hm : E.P.follows .mixedOrders = true) : ∀ (c : Code) (Q : Exit → ES → Prop) (s : ES), codeOk E.mu N c = true → ∀ (r : Option Nat), (r = none ∨ noRange c = true) → pexec E N c Q s → PSem E N r c Q s
  | .skip, Q, s, _, _, _, h => fun wk w0 Pr0 m Pr a w hr => wpIn_skip ⟨s, m, Pr, h, hr⟩
  | .exit id, Q, s, _, _, _, h => fun wk w0 Pr0 m Pr a w hr => wpIn_exit ⟨s, m, Pr, h, hr⟩
  | .ret, Q, s, _, _, _, h => fun wk w0 Pr0 m Pr a w hr => wpIn_ret ⟨s, m, Pr, h, hr⟩
  | .loop c, Q, s, hok, r, hr0, h => h hok hm r (by simpa only [noRange] using hr0)
  | .region id ops draw, Q, s, hok, r, hr0, h => fun wk w0 Pr0 m Pr a w hr => by
    simp only [codeOk, Bool.and_eq_true, Bool.or_eq_true, Bool.not_eq_true'] at hok
    obtain ⟨⟨h1, h2⟩, h3⟩ := hok
    obtain ⟨s', ht, hq⟩ := pops_trace ops.toList 0 _ (by simp) h
    have hr' : Rel E N wk w0 Pr0 (⟨killL s.τ (newDsts ops.toList), s.σ⟩ : ES).den m Pr a w := by
      have := hr.kill (newDsts ops.toList)
      simp only [ES.den, get_kill] at this ⊢
      exact this
    refine region_sound hm h1 h2 (T := mkTab ops) (fun hd => by rcases h3 with h3 | h3 <;> simp_all) (s := (⟨killL s.τ (newDsts ops.toList), s.σ⟩ : ES).den) (s' := s'.den) (by
      rw [List.range_eq_range']; simpa using ht) ?_ hr' (fun m' Pr' a' w' hr' => ⟨s', m', Pr', hq, hr'⟩)
    intro i _ o ho hn d hd t u hu
    simp only [ES.den, get_kill] at hu
    exact killτ_key hu d (newDsts_mem hn hd (by simpa using Array.mem_of_getElem? ho))
  | .seq x y, Q, s, hok, r, hr0, h => fun wk w0 Pr0 m Pr a w hr => by
    simp only [codeOk, Bool.and_eq_true] at hok
    have hn : (r = none ∨ noRange x = true) ∧ (r = none ∨ noRange y = true) := by
      simp only [noRange, Bool.and_eq_true] at hr0
      rcases hr0 with h0 | ⟨h1, h2⟩
      · exact ⟨.inl h0, .inl h0⟩
      · exact ⟨.inr h1, .inr h2⟩
    refine wpIn_seq (wpIn_mono (pexec_sound hm x _ s hok.1 r hn.1 h wk w0 Pr0 m Pr a w hr) ?_)
    rintro e a' w' ⟨s', m', Pr', hq, hr'⟩
    cases e with
    | normal => exact pexec_sound hm y Q s' hok.2 r hn.2 hq wk w0 Pr0 m' Pr' a' w' hr'
    | _ => exact ⟨s', m', Pr', hq, hr'⟩
  | .cond c x y, Q, s, hok, r, hr0, h => fun wk w0 Pr0 m Pr a w hr => by
    simp only [codeOk, Bool.and_eq_true] at hok
    have hn : (r = none ∨ noRange x = true) ∧ (r = none ∨ noRange y = true) := by
      simp only [noRange, Bool.and_eq_true] at hr0
      rcases hr0 with h0 | ⟨h1, h2⟩
      · exact ⟨.inl h0, .inl h0⟩
      · exact ⟨.inr h1, .inr h2⟩
    simp only [pexec, pcond] at h
    obtain ⟨b, hb, h⟩ := pbool_spec h
    have hv := (hr.opSV (x := c) (s := s.den) hb : Rep _ _ _).bool_inv
    have hset : ∀ b', b = b' → Rel E N wk w0 Pr0 (setB s c b').den m Pr a w := by
      rintro b' rfl
      cases c with
      | tmp t =>
        have : (setB s (.tmp t) b).den = s.den := put_same s t _ hb
        rw [this]; exact hr
      | _ => exact hr
    cases b with
    | true => exact wpIn_cond_true hv (pexec_sound hm x Q _ hok.1 r hn.1 (h.1 rfl) wk w0 Pr0 m Pr a w (hset true rfl))
    | false => exact wpIn_cond_false hv (pexec_sound hm y Q _ hok.2 r hn.2 (h.2 rfl) wk w0 Pr0 m Pr a w (hset false rfl))
  | .block id c, Q, s, hok, r, hr0, h => fun wk w0 Pr0 m Pr a w hr => by
    simp only [codeOk] at hok
    simp only [noRange] at hr0
    refine wpIn_block (wpIn_mono (pexec_sound hm c _ s hok r hr0 h wk w0 Pr0 m Pr a w hr) ?_)
    rintro e a' w' ⟨s', m', Pr', hq, hr'⟩
    cases e with
    | exit i =>
      simp only [pblk] at hq
      simp only [Exit.inBlock]
      split
      · rename_i e; simp only [e, if_true] at hq; exact ⟨s', m', Pr', hq, hr'⟩
      · rename_i e; simp only [e, if_false] at hq; exact ⟨s', m', Pr', hq, hr'⟩
    | _ => exact ⟨s', m', Pr', hq, hr'⟩
  | .rangeFunc f ps x y, Q, s, hok, r, hr0, h => by
    simp only [codeOk, Bool.and_eq_true] at hok
    simp only [noRange, Bool.false_eq_true, or_false] at hr0
    subst hr0
    exact h hok.1.1.1 hok.1.1.2 hok.1.2 hok.2 hm
  | .scope _, _, _, _, _, _, h | .label _, _, _, _, _, _, h | .goto _, _, _, _, _, _, h | .refuse _, _, _, _, _, _, h => h.elim
end
end PG
