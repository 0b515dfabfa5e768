/- THE PURE READING OF A GO FUNCTION, 10: a whole region, in whatever order. -/
import Derived.Test.YtflpcgcgeffolaaDoorPgI
set_option linter.unusedVariables false
set_option linter.unusedSimpArgs false
namespace PG
open Go Go.RowKit

section
variable {E : PE} {N : Nat} {wk : Gh} {w0 : Fm} {Pr0 : Nat → Nat → Prop} {s s' s1 s2 : PS} {m : Nat → Value} {Pr : Nat → Nat → Prop} {a : Act} {w : World} {ops : Array Oper}

theorem putτ_ment {τ : Nat → Option SV} {dst : Option Tmp} {v : SV} {k : Nat} (h : Ment (putτ τ dst v) k) : Ment τ k ∨ v.key = some k := by
  obtain ⟨t, u, hu, hk⟩ := h
  cases dst with
  | none => exact .inl ⟨t, u, hu, hk⟩
  | some d =>
    simp only [putτ] at hu
    split at hu
    · cases hu; exact .inr hk
    · exact .inl ⟨t, u, hu, hk⟩

theorem stepP_ment {o : Oper} {k : Nat} (h : StepP E o s s') (hm : Ment s'.τ k) : Ment s.τ k ∨ ((isNew o.op || isApp E.mu o.op) = true ∧ o.dst = some k) := by
  unfold StepP at h
  split at h
  · obtain ⟨v, hv, rfl⟩ := h
    rcases putτ_ment hm with hm | hm
    · exact .inl hm
    · exact .inl (stepA_key hv hm)
  · obtain ⟨out, fz, hv, ha⟩ := h
    cases out with
    | val v =>
      simp only [Appl] at ha; subst ha
      rcases putτ_ment hm with hm | hm
      · exact .inl hm
      · exact .inl ((stepR_key hv).2.1 v k rfl hm)
    | new b =>
      obtain ⟨d, hd, rfl⟩ := ha
      rcases putτ_ment hm with hm | hm
      · exact .inl hm
      · have hn := (stepR_key hv).2.2.1 ⟨b, rfl⟩
        have : d = k := by cases b <;> simpa [newSV, SV.key] using hm
        exact .inr ⟨by simp [hn], by rw [hd, this]⟩
    | st j b =>
      obtain ⟨_, _, rfl⟩ := ha
      rcases putτ_ment hm with hm | hm
      · exact .inl hm
      · cases hm
    | app j b =>
      obtain ⟨d, hd, _, rfl⟩ := ha
      rcases putτ_ment hm with hm | hm
      · obtain ⟨t, u, hu, hk⟩ := hm
        simp only [killτ] at hu
        split at hu
        · rename_i x hx
          split at hu
          · split at hu
            · cases hu; cases hk
            · cases hu; exact .inl ⟨t, _, hx, hk⟩
          · cases hu; exact .inl ⟨t, _, hx, hk⟩
        · cases hu
      · have ha := (stepR_key hv).2.2.2.2.1 ⟨j, b, rfl⟩
        have : d = k := by simpa [SV.key] using hm
        exact .inr ⟨by simp [ha], by rw [hd, this]⟩
    | inl f args =>
      have happ := ((stepR_key hv).2.2.2.2.2 ⟨f, args, rfl⟩).1
      obtain ⟨ks, cargs, bs, bs', r, hpc, -, -, -, hkl, -, hdk, hd0, rfl⟩ := ha
      rcases putτ_ment hm with hm | hm
      · obtain ⟨t, u, hu, hk⟩ := hm
        simp only [killτ] at hu
        split at hu
        · rename_i x hx
          split at hu
          · split at hu
            · cases hu; cases hk
            · cases hu; exact .inl ⟨t, _, hx, hk⟩
          · cases hu; exact .inl ⟨t, _, hx, hk⟩
        · cases hu
      · refine .inr ⟨by simp [happ], ?_⟩
        have hrk := hpc.2.2.1
        have hkey : ∀ j, r.key = some j → (ks ++ o.dst.toList).getD j 0 = k := fun j hj => by
          cases r <;> simp only [SV.key, Option.some.injEq, reduceCtorEq] at hj
          all_goals subst hj; simpa [ren, SV.key] using hm
        cases hr : r.key with
        | none => cases r <;> simp [SV.key, ren] at hr hm
        | some j =>
          obtain ⟨rfl, hlen⟩ := hrk j hr
          have e := hkey _ hr
          cases hdst : o.dst with
          | none => have := hd0 hdst; omega
          | some d => rw [hdst] at e; simp [← hkl] at e; rw [e]
    | call f args =>
      obtain ⟨r, _, rfl⟩ := ha
      rcases putτ_ment hm with hm | hm
      · exact .inl hm
      · cases hm

theorem stepI_ment {i k : Nat} (h : StepI E ops i s s') (hm : Ment s'.τ k) : Ment s.τ k ∨ mk E.mu ops i = some k := by
  obtain ⟨o, ho, h⟩ := h
  have key : StepP E o s s' → Ment s.τ k ∨ mk E.mu ops i = some k := fun h => by
    rcases stepP_ment h hm with h | ⟨h1, h2⟩
    · exact .inl h
    · exact .inr (by simp only [mk, ho, Option.bind_some, h1, if_true]; exact h2)
  split at h
  · exact key h
  · obtain ⟨b, _, h⟩ := h
    split at h
    · exact key h
    · subst h
      rcases putτ_ment hm with hm | hm
      · exact .inl hm
      · cases hm

theorem mk_lt {i d : Nat} (h : mk E.mu ops i = some d) : i < ops.size := by
  unfold mk at h
  cases ho : ops[i]? with
  | none => simp [ho] at h
  | some o => exact (Array.getElem?_eq_some_iff.1 ho).1

theorem distinct_spec (h : distinct E.mu ops = true) {i j d : Nat} (hi : mk E.mu ops i = some d) (hj : mk E.mu ops j = some d) : i = j := by
  simp only [distinct, List.all_eq_true, List.mem_range, Bool.or_eq_true, beq_iff_eq, bne_iff_ne, ne_eq] at h
  rcases Nat.lt_trichotomy i j with hlt | he | hlt
  · rcases h j (mk_lt hj) i hlt with e | e
    · rw [hj] at e; cases e
    · exact absurd (hj.trans hi.symm) e
  · exact he
  · rcases h i (mk_lt hi) j hlt with e | e
    · rw [hi] at e; cases e
    · exact absurd (hi.trans hj.symm) e

theorem nms_step (hdis : distinct E.mu ops = true) {i : Nat} {l : List Nat} (hN : NMs ops l s) (hi : i ∉ l) (h : StepI E ops i s s') : NMs ops l s' := by
  intro j hj o ho hn d hd t u hu hk
  rcases stepI_ment h ⟨t, u, hu, hk⟩ with ⟨t', u', hu', hk'⟩ | hmk
  · exact hN j hj o ho hn d hd t' u' hu' hk'
  · have : mk E.mu ops j = some d := by simp only [mk, ho, Option.bind_some, hn, Bool.true_or, if_true]; exact hd
    have := distinct_spec hdis hmk this
    subst this
    exact hi hj

/-! ### In the text's order -/
theorem text_sound {r : Option Nat} (hN : dstsOk N ops = true) (hdis : distinct E.mu ops = true) {Q : Exit → Act → World → Prop} : ∀ (l : List Nat) {s : PS} {m : Nat → Value} {Pr : Nat → Nat → Prop} {a : Act} {w : World}, l.Nodup →
    Trace E ops l s s' → NMs ops l s → Rel E N wk w0 Pr0 s m Pr a w → (∀ m' Pr' a' w', Rel E N wk w0 Pr0 s' m' Pr' a' w' → Q .normal a' w') → wpOpsIn (RF r) 0 E.P ops Q l a w
  | [], s, m, Pr, a, w, _, ht, _, hr, hQ => by
    simp only [Trace] at ht; subst ht
    exact hQ _ _ _ _ hr
  | i :: l, s, m, Pr, a, w, hnd, ht, hn, hr, hQ => by
    obtain ⟨s1, h1, ht⟩ := ht
    rw [wpOpsIn_cons]
    have hnd' := List.nodup_cons.1 hnd
    refine stepI_sound hN hr (fun j hj => hn j (by simp only [List.mem_singleton] at hj; simp [hj])) h1 fun m' Pr' a' w' hr' => ?_
    exact text_sound hN hdis l hnd'.2 ht (nms_step hdis (fun j hj => hn j (by simp [hj])) hnd'.1 h1) hr' hQ

/-! ### In every order -/
def bnd (o : Oper) (p : Nat → Bool) : Bool := o.after.any fun e => Region.binds .any e && p e.on

def edgesOk (ops : Array Oper) : Bool := ops.toList.zipIdx.all fun (o, i) => o.after.all fun e => !Region.binds .any e || decide (e.on < i)

/-- Which operations come ahead, as a table: what each row says must follow from an edge and the rows above. -/
def tabOk (ops : Array Oper) (T : List (List Nat)) : Bool :=
  ops.toList.zipIdx.all fun (o, i) => (T.getD i []).all fun e => bnd o fun j => decide (j < i) && (j == e || (T.getD j []).contains e)

def mkTab (ops : Array Oper) : List (List Nat) :=
  ops.toList.foldl (fun T o => T ++ [(o.after.toList.foldl (fun l e => if Region.binds .any e then (e.on :: T.getD e.on []).foldl (fun l j => if l.contains j then l else j :: l) l else l) [])]) []

def drawOk (mu : Nat → Bool) (ops : Array Oper) (T : List (List Nat)) : Bool :=
  edgesOk ops && tabOk ops T && (List.range ops.size).all fun i => (List.range i).all fun e => (T.getD i []).contains e ||
    match ops[e]?, ops[i]? with
    | some x, some y => compat mu ops x y
    | _, _ => true

def Listed (ops : Array Oper) (listed : Array Bool) : Prop :=
  ∀ j o, ops[j]? = some o → listed.getD j false = true → ∀ e ∈ o.after, Region.binds .any e = true → listed.getD e.on false = true

theorem anc_listed {T : List (List Nat)} (hT : tabOk ops T = true) {listed : Array Bool} (hl : Listed ops listed) : ∀ (i : Nat) (o : Oper), ops[i]? = some o →
    (∀ e ∈ o.after, Region.binds .any e = true → listed.getD e.on false = true) → ∀ e ∈ T.getD i [], listed.getD e false = true := by
  intro i
  induction i using Nat.strongRecOn with
  | _ i ih =>
    intro o ho hall e he
    simp only [tabOk, List.all_eq_true] at hT
    have h1 := hT (o, i) (by
      rw [List.mem_zipIdx_iff_getElem?]
      simpa using ho)
    have h2 := h1 e he
    simp only [bnd, Array.any_eq_true'] at h2
    obtain ⟨ed, hed, h3⟩ := h2
    simp only [Bool.and_eq_true, decide_eq_true_eq, Bool.or_eq_true, beq_iff_eq] at h3
    obtain ⟨hb, hlt, h4⟩ := h3
    have hon := hall ed hed hb
    rcases h4 with h4 | h4
    · rw [← h4]; exact hon
    · have hlt' : ed.on < ops.size := Nat.lt_trans hlt (Array.getElem?_eq_some_iff.1 ho).1
      exact ih ed.on hlt _ (Array.getElem?_eq_getElem hlt') (hl ed.on _ (Array.getElem?_eq_getElem hlt') hon) e (by simpa using h4)

theorem trace_front {i : Nat} {y : Oper} (hy : ops[i]? = some y) (hdis : distinct E.mu ops = true) : ∀ (L1 L2 : List Nat) {s : PS}, (L1 ++ i :: L2).Nodup → NMs ops (L1 ++ i :: L2) s →
    (∀ e ∈ L1, ∃ x, ops[e]? = some x ∧ compat E.mu ops x y = true) → Trace E ops (L1 ++ i :: L2) s s' → ∃ s1, StepI E ops i s s1 ∧ Trace E ops (L1 ++ L2) s1 s'
  | [], L2, s, _, _, _, ht => ht
  | e :: L1, L2, s, hnd, hn, hc, ht => by
    obtain ⟨sa, h1, ht⟩ := ht
    have hnd' := List.nodup_cons.1 hnd
    obtain ⟨sb, h2, ht2⟩ := trace_front hy hdis L1 L2 hnd'.2 (nms_step hdis (fun j hj => hn j (by simp only [List.cons_append, List.mem_cons]; exact .inr hj)) hnd'.1 h1) (fun e he => hc e (by simp [he])) ht
    obtain ⟨x, hx, hcx⟩ := hc e (by simp)
    obtain ⟨s3, h3, h4⟩ := commute hx hy hcx (fun hne d hd hm => by obtain ⟨t, u, hu, hk⟩ := hm; exact hn e (by simp) x hx hne d hd t u hu hk)
      (fun hne d hd hm => by obtain ⟨t, u, hu, hk⟩ := hm; exact hn i (by simp) y hy hne d hd t u hu hk) h1 h2
    exact ⟨s3, h3, sb, h4, ht2⟩

theorem any_sound {r : Option Nat} (hN : dstsOk N ops = true) (hdis : distinct E.mu ops = true) {T : List (List Nat)} (hdr : drawOk E.mu ops T = true) {Q : Exit → Act → World → Prop}
    (hQ : ∀ m' Pr' a' w', Rel E N wk w0 Pr0 s' m' Pr' a' w' → Q .normal a' w') : ∀ (n : Nat) (L : List Nat) (listed : Array Bool) {s : PS} {m : Nat → Value} {Pr : Nat → Nat → Prop} {a : Act} {w : World},
      L.length = n → L.Pairwise (· < ·) → (∀ i, i ∈ L ↔ i < ops.size ∧ listed.getD i true = false) → listed.size = ops.size → Listed ops listed →
      Trace E ops L s s' → NMs ops L s → Rel E N wk w0 Pr0 s m Pr a w → wpAnyIn (RF r) 0 E.P .any ops Q n listed a w := by
  simp only [drawOk, Bool.and_eq_true] at hdr
  obtain ⟨⟨hedge, htab⟩, hcomp⟩ := hdr
  intro n
  induction n with
  | zero =>
    intro L listed s m Pr a w hlen hsort hmem hsz hlst ht hn hr
    have hL : L = [] := List.eq_nil_of_length_eq_zero hlen
    subst hL
    simp only [Trace] at ht; subst ht
    refine ⟨?_, hQ _ _ _ _ hr⟩
    rw [List.eq_nil_iff_forall_not_mem]
    intro i hi
    have h1 := mem_ready.1 hi
    obtain ⟨h0, o, ho, _⟩ := h1
    have := (hmem i).2 ⟨(Array.getElem?_eq_some_iff.1 ho).1, h0⟩
    cases this
  | succ n ih =>
    intro L listed s m Pr a w hlen hsort hmem hsz hlst ht hn hr
    refine ⟨fun h0 => ?_, fun i hi => ?_⟩
    · -- the first one that is left is ready
      exfalso
      cases L with
      | nil => cases hlen
      | cons i l =>
        have hi := (hmem i).1 (by simp)
        have : i ∈ Region.ready .any ops listed := mem_ready.2 ⟨hi.2, _, Array.getElem?_eq_getElem hi.1, fun e he hb => by
          simp only [edgesOk, List.all_eq_true] at hedge
          have h1 := hedge (ops[i], i) (by rw [List.mem_zipIdx_iff_getElem?]; simp [Array.getElem?_eq_getElem hi.1])
          have h2 := Array.all_eq_true_iff_forall_mem.1 h1 e he
          simp only [Bool.or_eq_true, Bool.not_eq_true', decide_eq_true_eq] at h2
          have hlt : e.on < i := by
            rcases h2 with h2 | h2
            · rw [hb] at h2; cases h2
            · exact h2
          cases hle : listed.getD e.on true with
          | true =>
            have : e.on < listed.size := by rw [hsz]; exact Nat.lt_trans hlt hi.1
            simp only [Array.getD_eq_getD_getElem?, Array.getElem?_eq_getElem this, Option.getD_some] at hle ⊢
            exact hle
          | false =>
            have hin := (hmem e.on).2 ⟨Nat.lt_trans hlt hi.1, hle⟩
            rcases List.mem_cons.1 hin with h3 | h3
            · omega
            · have := (List.pairwise_cons.1 hsort).1 _ h3
              omega⟩
        rw [h0] at this
        cases this
    · obtain ⟨hun, y, hy, hall⟩ := mem_ready.1 hi
      have hilt := (Array.getElem?_eq_some_iff.1 hy).1
      have hiL := (hmem i).2 ⟨hilt, hun⟩
      obtain ⟨L1, L2, rfl⟩ := List.append_of_mem hiL
      have hnd : (L1 ++ i :: L2).Nodup := hsort.imp (fun h => Nat.ne_of_lt h)
      have hlt1 : ∀ e ∈ L1, e < i := fun e he => (List.pairwise_append.1 hsort).2.2 e he i (by simp)
      obtain ⟨s1, h1, ht1⟩ := trace_front hy hdis L1 L2 hnd hn (fun e he => by
        have hein := (hmem e).1 (by simp [he])
        refine ⟨_, Array.getElem?_eq_getElem hein.1, ?_⟩
        simp only [List.all_eq_true, List.mem_range, Bool.or_eq_true] at hcomp
        rcases hcomp i hilt e (hlt1 e he) with h2 | h2
        · have h3 := anc_listed htab hlst i y hy hall e (by simpa using h2)
          have h4 := hein.2
          have : e < listed.size := by rw [hsz]; exact hein.1
          simp only [Array.getD_eq_getD_getElem?, Array.getElem?_eq_getElem this, Option.getD_some] at h3 h4
          rw [h3] at h4; cases h4
        · simp only [Array.getElem?_eq_getElem hein.1, hy] at h2
          exact h2) ht
      have hi1 : i ∉ L1 ++ L2 := by
        have := (List.nodup_append.1 hnd)
        intro hmem'
        rcases List.mem_append.1 hmem' with h | h
        · exact absurd rfl (this.2.2 i h i (by simp))
        · exact (List.nodup_cons.1 this.2.1).1 h
      refine stepI_sound hN hr (fun j hj => hn j (by simp only [List.mem_singleton] at hj; simp [hj])) h1 fun m' Pr' a' w' hr' => ?_
      refine ih (L1 ++ L2) (listed.setIfInBounds i true) (by simp at hlen ⊢; omega) ?_ ?_ (by simpa using hsz) ?_ ht1 (nms_step hdis (fun j hj => hn j (by
        rcases List.mem_append.1 hj with h | h
        · simp [h]
        · simp [h])) hi1 h1) hr'
      · have := List.pairwise_append.1 hsort
        exact List.pairwise_append.2 ⟨this.1, (List.pairwise_cons.1 this.2.1).2, fun e he j hj => this.2.2 e he j (by simp [hj])⟩
      · intro j
        by_cases hji : j = i
        · subst hji
          constructor
          · intro h; exact absurd h hi1
          · rintro ⟨_, h⟩
            have : j < listed.size := by rw [hsz]; exact hilt
            simp [this] at h
        · rw [getD_set_ne true (fun e => hji e.symm)]
          rw [← hmem j]
          simp [hji]
      · intro j o ho hj e he hb
        by_cases hji : j = i
        · subst hji
          rw [hy] at ho; cases ho
          exact getD_set_true (hall e he hb)
        · rw [getD_set_ne false (fun e => hji e.symm)] at hj
          exact getD_set_true (hlst j o ho hj e he hb)

/-- A REGION: the pure walk of the text serves, whatever order the region draws. -/
theorem region_sound {r : Option Nat} (hm : E.P.follows .mixedOrders = true) (hN : dstsOk N ops = true) (hdis : distinct E.mu ops = true) {id : Nat} {draw : Bool} {T : List (List Nat)} (hdr : draw = true → drawOk E.mu ops T = true)
    {Q : Exit → Act → World → Prop} (ht : Trace E ops (List.range ops.size) s s') (hn : NMs ops (List.range ops.size) s) (hr : Rel E N wk w0 Pr0 s m Pr a w)
    (hQ : ∀ m' Pr' a' w', Rel E N wk w0 Pr0 s' m' Pr' a' w' → Q .normal a' w') : (Code.region id ops draw).wpIn (RF r) 0 E.P Q a w := by
  cases draw with
  | false => exact wpIn_region (text_sound hN hdis _ List.nodup_range ht hn hr hQ)
  | true =>
    have hr' : Rel E N wk w0 Pr0 s m Pr a { w with drawn := w.drawn + 1 } := ⟨hr.below.drew, dk_keep hr.dfr (KeepsOthers.drew _), hr.pin, hr.keep, hr.sz, hr.pr0, hr.new, hr.bnd, hr.glob, hr.tmp, hr.blk, hr.sep⟩
    refine wpIn_region_any hm (any_sound hN hdis (hdr rfl) hQ ops.size (List.range ops.size) _ (by simp) List.pairwise_lt_range ?_ (by simp) ?_ ht hn hr')
    · intro i
      simp only [List.mem_range]
      constructor
      · intro h; exact ⟨h, by simp [h]⟩
      · exact fun h => h.1
    · intro j o ho hj
      simp only [Array.getD_eq_getD_getElem?, Array.getElem?_replicate] at hj
      split at hj <;> simp at hj
end
end PG
