/- THE PURE READING OF A GO FUNCTION: a loop over a function that hands out a slice's places, from the last to the first. -/
import Derived.Test.YtflpcgcgeffolaaDoorPgL
set_option linter.unusedVariables false
set_option linter.unusedSimpArgs false
namespace PG
open Go Go.RowKit

/-- The places that have come when k rounds are over. -/
def back {n : Nat} : Nat → List (Fin n)
  | 0 => []
  | k + 1 => if h : k < n then back k ++ [⟨n - 1 - k, by omega⟩] else back k

theorem back_length {n : Nat} : ∀ k, k ≤ n → (back (n := n) k).length = k
  | 0, _ => rfl
  | k + 1, h => by
    have hk : k < n := h
    simp only [back, dif_pos hk, List.length_append, List.length_singleton, back_length k (Nat.le_of_lt hk)]

theorem back_succ {n k : Nat} (h : k < n) : back (n := n) (k + 1) = back k ++ [⟨n - 1 - k, by omega⟩] := by simp only [back]; rw [dif_pos h]

/-- What could be read, and lay so, lies so still. -/
def Kg (g : Addr → Option Value) (A B : World) : Prop := ∀ p x, g p = some x → A.cell? p = some x → B.cell? p = some x

/-- An iterator over the places of a slice, the last one first; 'el' is what each place holds. -/
def PIter (E : PE) (gf : FuncId) (caps : List PV) (len : Nat) (el : Nat → PV) : Prop :=
  (∀ args w, (callFunc gf args).run E.P w = .ok (.enter gf args) w) ∧
  ∀ (w : World) (Pr : Nat → Nat → Prop) (lb : Array Value), (∀ g o, Pr g o → g < w.heap.size) → lb.size = caps.length → (∀ (j : Nat) p x, caps[j]? = some p → lb[j]? = some x → Rep (rd w Pr) p x) →
    ∃ ev : Nat → Value, (∀ j, j < len → Rep (rd w Pr) (el j) (ev j)) ∧
      SeqStopsK (RF none) 3 E.P gf lb (fun x : Fin len => #[.int .i64 x.1, ev x.1]) (Kg (rd w Pr)) (fun xs => xs = back len) (fun pre => ∃ k, k ≤ len ∧ pre = back k) len w

def shiftB (N : Nat) (σ : List (Nat × (Bk × Bool))) : List (Nat × (Bk × Bool)) := σ.map fun p => (N + p.1, p.2)
def shiftT (N : Nat) (τ : List (Nat × SV)) : List (Nat × SV) := τ.map fun p => (p.1, shiftSV N p.2)

theorem get_shiftT (N : Nat) : ∀ (τ : List (Nat × SV)) (t : Nat), sget (shiftT N τ) t = (sget τ t).map (shiftSV N)
  | [], t => rfl
  | (k, v) :: r, t => by
    simp only [shiftT, List.map_cons, sget]
    split
    · rfl
    · exact get_shiftT N r t

theorem get_shiftB (N : Nat) : ∀ (σ : List (Nat × (Bk × Bool))) (k : Nat) (b : Bk × Bool), sget (shiftB N σ) k = some b → ∃ j, k = N + j ∧ sget σ j = some b
  | [], k, b, h => by simp [shiftB, sget] at h
  | (i, v) :: r, k, b, h => by
    simp only [shiftB, List.map_cons, sget] at h
    split at h
    · rename_i e; cases h; exact ⟨i, e, by simp [sget]⟩
    · rename_i hne
      obtain ⟨j, rfl, hj⟩ := get_shiftB N r k b h
      refine ⟨j, rfl, ?_⟩
      simp only [sget]
      rw [if_neg (fun e => hne (by rw [e]))]
      exact hj

theorem SRep.shift {g : Addr → Option Value} {m mS : Nat → Value} {N : Nat} (hm : ∀ k, mS (N + k) = m k) {u : SV} {x : Value} : SRep g mS (shiftSV N u) x ↔ SRep g m u x := by
  cases u <;> simp only [shiftSV, SRep, hm]

section
variable {E : PE} {N : Nat} {wk : Gh} {w0 : Fm} {Pr0 : Nat → Nat → Prop}

theorem room_RF (r : Option Nat) (k : Nat) : (RF r).room k := fun d h => by simp [RF] at h

theorem wpIn_any {r : Option Nat} {n n' : Nat} {P : Program} {c : Code} {Q : Exit → Act → World → Prop} {a : Act} {w : World} (h : c.wpIn (RF r) n P Q a w) : c.wpIn (RF r) n' P Q a w :=
  fun b k cs hro hb _ => h b k cs hro hb (room_RF r _)

/-- The loop variables, as a round begins: the places are put into their slots, and one of them is handed on. -/
def asgAct (d p : Nat) (a : Act) : Act := a.put (some d) (a.eval (.tmp p))

theorem wpIn_asg {r : Option Nat} {n id : Nat} {P : Program} {d p : Nat} {ty : TypeId} {pos : String} {after : Array Edge} {Q : Exit → Act → World → Prop} {a : Act} {w : World}
    (h : Q .normal (asgAct d p a) w) : (Code.region id #[⟨some d, .assign (.tmp p), ty, pos, after, none⟩] false).wpIn (RF r) n P Q a w := by
  refine wpIn_any (n := 0) (wpIn_region ?_)
  show wpOpsIn (RF r) 0 P _ Q [0] a w
  rw [wpOpsIn_cons]
  unfold wpOpIn
  simp only [List.size_toArray, List.getElem?_toArray, List.getElem?_cons_zero, Region.wanted, if_true]
  refine wpIn_of_wp (fun c e => by cases e) ?_
  unfold Oper.wp
  simp only [execOp, Sem.run_pure]
  exact h

def endR (St : List Nat → List (Nat × (Bk × Bool))) (J : List Nat → Prop) (QX : List Nat → Exit → List (Nat × (Bk × Bool)) → Prop) (N : Nat) (pre : List Nat) : Exit → ES → Prop
  | .normal, s => J pre ∧ ∀ p ∈ St pre, sget s.σ (N + p.1) = some p.2
  | .ret, s => ∃ σ, QX pre .ret σ ∧ ∀ p ∈ σ, sget s.σ (N + p.1) = some p.2
  | .exit i, s => ∃ σ, QX pre (.exit i) σ ∧ ∀ p ∈ σ, sget s.σ (N + p.1) = some p.2
  | _, _ => False

theorem Rel.backFrom {τ : List (Nat × SV)} {σ1 : List (Nat × (Bk × Bool))} {m m2 mS : Nat → Value} {Pr1 Pr2 : Nat → Nat → Prop} {a a2 : Act} {W W2 : World} {s' : ES} {w : World} {g : Addr → Option Value} {σ0 : List (Nat × (Bk × Bool))}
    (h1 : Rel E N ⟨w, m, g⟩ w0 Pr0 ⟨sget τ, sget σ0⟩ m Pr1 a W) (hmS : ∀ k, mS (N + k) = m k) (h2 : Rel E N ⟨W, mS, rd W Pr1⟩ w0 Pr0 s'.den m2 Pr2 a2 W2) (hσ : ∀ p ∈ σ1, sget s'.σ (N + p.1) = some p.2) :
    Rel E N ⟨w, m, g⟩ w0 Pr0 ⟨sget τ, sget σ1⟩ m Pr2 a W2 := by
  have hm2 : ∀ k, m2 (N + k) = m k := fun k => (h2.pin _ (by omega)).trans (hmS k)
  refine ⟨h2.below, dk_keep h1.dfr h2.dfr.2, h1.pin, fun p x hx => h2.keep _ _ (h1.keep p x hx), h1.sz, h2.pr0, h2.new, h2.bnd, h2.glob, fun t u hu => ?_, fun k b hk => ?_, fun k k' b c hk hk' hne => ?_⟩
  · obtain ⟨x, hx, hr⟩ := h1.tmp t u hu
    exact ⟨x, hx, hr.mono h2.keep fun _ _ => rfl⟩
  · have := h2.blk (N + k) b (hσ _ (get_mem hk))
    rwa [hm2] at this
  · have := h2.sep (N + k) (N + k') b c (hσ _ (get_mem hk)) (hσ _ (get_mem hk')) (by omega)
    rwa [hm2, hm2] at this

/-- A LOOP OVER SUCH AN ITERATOR: what the blocks hold hangs on which places have come; a round may be left. (Each round starts with the slots as they were ahead of the loop.) -/
theorem PRange.intro {gf : FuncId} {caps : List PV} {len : Nat} {el : Nat → PV} {f : Operand} {p0 p1 d p id : Nat} {ty : TypeId} {pos : String} {after : Array Edge} {y : Code} {Q : Exit → ES → Prop} {τ : List (Nat × SV)} {σ : List (Nat × (Bk × Bool))}
    (hit : PIter E gf caps len el) (hf : opSV E (sget τ) f = some (.val (.clo gf caps)))
    (hd : d < N) (hp0 : p0 < N) (hp1 : p1 < N) (hp01 : p0 ≠ p1) (hp : p = p0 ∨ p = p1) (hlen : (len : Int) ≤ 9223372036854775807)
    (St : List Nat → List (Nat × (Bk × Bool))) (J : List Nat → Prop) (QX : List Nat → Exit → List (Nat × (Bk × Bool)) → Prop)
    (hJ0 : J []) (h0 : ∀ q ∈ St [], sget σ q.1 = some q.2)
    (hround : ∀ pre i, J pre → pre.length < len → i < len → pexec E N y (endR St J QX N (pre ++ [i])) ⟨(d, .val (if p = p0 then .int .i64 i else el i)) :: (p0, .val (.int .i64 i)) :: (p1, .val (el i)) :: shiftT N τ, shiftB N (St pre)⟩)
    (hdone : J ((back (n := len) len).map (·.1)) → Q .normal ⟨τ, St ((back (n := len) len).map (·.1))⟩)
    (hstop : ∀ k e σx, k ≤ len → QX ((back (n := len) k).map (·.1)) e σx → Q e ⟨τ, σx⟩) :
    PRange E N f #[p0, p1] (.region id #[⟨some d, .assign (.tmp p), ty, pos, after, none⟩] false) y Q ⟨τ, σ⟩ := by
  intro hokx hoky hnx hny hmo wk w0 Pr0 m Pr a w hrel
  obtain ⟨lb, hfe, hlb, hlr⟩ := (Rep.clo_inv (hrel.opSV hf : Rep _ _ _))
  obtain ⟨heg, hit⟩ := hit
  obtain ⟨ev, hev, hseq⟩ := hit w Pr lb hrel.bnd hlb hlr
  let gh : Gh := ⟨w, m, rd w Pr⟩
  obtain ⟨Ds, hDs, hDn, hDD⟩ := hrel.dfr.1
  have hDlt : ∀ D ∈ Ds, D < w.heap.size := fun D hD => (Array.getElem?_eq_some_iff.1 (hDD D hD).2).1
  have htop : ∀ k, w.heap.size ≤ k → w0.O k := fun k hk => w0.top k (Nat.le_trans hrel.below.size hk)
  let I0 : List (Nat × (Bk × Bool)) → World → Prop := fun σ1 W => ∃ Pr', Rel E N gh w0 Pr0 ⟨sget τ, sget σ1⟩ m Pr' a W
  have hturn : ∀ σ1 W W' row, I0 σ1 W → W.grownBy W' row → (∀ r, row = some r → w.heap.size ≤ r ∧ ∃ o : Obj, W.heap[r]? = some o ∧ o.isCells = false) → I0 σ1 W' := by
    rintro σ1 W W' row ⟨Pr', h⟩ hg hr
    obtain ⟨Ds', e', hn', hD'⟩ := h.dfr.1
    have hko : KeepsOthers w W' := ⟨Nat.le_trans h.dfr.2.size hg.size, fun k o hk ho => by
      have hlt := (Array.getElem?_eq_some_iff.1 hk).1
      rw [hg.block k (Nat.lt_of_lt_of_le hlt h.dfr.2.size) (fun e => by have := (hr k e.symm).1; omega)]
      exact h.dfr.2.same k o hk ho⟩
    refine ⟨Pr', h.turn hg (fun r e => ⟨htop r (hr r e).1, (hr r e).2⟩) rfl (wk' := w) ⟨⟨Ds, hDs, hDn, fun D hD => ⟨(hDD D hD).1, ?_⟩⟩, hko⟩⟩
    exact hko.same D _ (hDD D hD).2 rfl
  have hI00 : I0 (St []) w := by
    refine ⟨Pr, ⟨hrel.below, ⟨hrel.dfr.1, KeepsOthers.refl _⟩, fun _ _ => rfl, fun _ _ h => h, hrel.sz, hrel.pr0, hrel.new, hrel.bnd, hrel.glob, hrel.tmp, fun k b hk => ?_, fun k k' b c hk hk' => ?_⟩⟩
    · exact hrel.blk k b (h0 _ (get_mem hk))
    · exact hrel.sep k k' b c (h0 _ (get_mem hk)) (h0 _ (get_mem hk'))
  let I : List (Fin len) → World → Prop := fun pre W => J (pre.map (·.1)) ∧ I0 (St (pre.map (·.1))) W
  let Ix : Code → List (Fin len) → World → Prop := fun c pre W => match c with
    | .ret => ∃ σx, QX (pre.map (·.1)) .ret σx ∧ I0 σx W
    | .exit i => ∃ σx, QX (pre.map (·.1)) (.exit i) σx ∧ I0 σx W
    | _ => False
  have fin : ∀ (D : Nat) (W : World) σ1, w.heap.size ≤ D → I0 σ1 W → W.heap[D]? = some (.deferred (some [])) → ∃ Pr', Rel E N wk w0 Pr0 ⟨sget τ, sget σ1⟩ m Pr' { a with defers := { target := .collected D, args := #[] } :: a.defers } W := by
    rintro D W σ1 hD ⟨Pr', h⟩ hh
    refine ⟨Pr', ⟨h.below, ⟨⟨D :: Ds, by rw [hDs]; rfl, List.nodup_cons.2 ⟨fun hm => by have := hDlt D hm; omega, hDn⟩, fun D' hD' => ?_⟩, hrel.dfr.2.trans h.dfr.2⟩, hrel.pin, fun q x hx => h.keep _ _ (hrel.keep q x hx), h.sz, h.pr0, h.new, h.bnd, h.glob, h.tmp, h.blk, h.sep⟩⟩
    rcases List.mem_cons.1 hD' with rfl | hD'
    · exact ⟨htop _ hD, hh⟩
    · exact ⟨(hDD D' hD').1, h.dfr.2.same D' _ (hDD D' hD').2 rfl⟩
  have hps : ∀ x : Fin len, (#[Value.int .i64 x.1, ev x.1] : Array Value).size = (#[p0, p1] : Array Tmp).size := fun x => rfl
  have hfold : ∀ x : Fin len, ((#[p0, p1] : Array Tmp).zip #[Value.int .i64 x.1, ev x.1]).foldl (fun t (p, v) => t.setIfInBounds p v) a.tmps = (a.tmps.setIfInBounds p0 (.int .i64 x.1)).setIfInBounds p1 (ev x.1) := fun x => by simp
  refine wpIn_any (n := 4) (wpIn_rangeFunc_ownF (F := RF none) (w0 := w) rfl (by decide) hfe trivial heg hseq (fun h k q x hq hA => k q x hq (h q x hq hA)) ?_ (Below.refl _ _) hps I Ix ?_ ?_ ⟨hJ0, hI00⟩
    (fun x => asgAct d p { tmps := (a.tmps.setIfInBounds p0 (.int .i64 x.1)).setIfInBounds p1 (ev x.1), defers := [] }) ?_ ?_ ?_ ?_)
  · intro W l o o' hl hh ho _ q x hq hA
    rw [World.cell?_of_block (World.putObj_heap_other (fun e => ?_))]
    · exact hA
    · unfold World.cell? at hA
      rw [e, hh] at hA
      cases o <;> simp [Obj.isCells] at ho hA
  · rintro pre W W' row ⟨hj, hi⟩ hg hr
    exact ⟨hj, hturn _ W W' row hi hg hr⟩
  · intro c pre W W' row hx hg hr
    cases c with
    | ret => obtain ⟨σx, hq, hi⟩ := hx; exact ⟨σx, hq, hturn _ W W' row hi hg hr⟩
    | exit i => obtain ⟨σx, hq, hi⟩ := hx; exact ⟨σx, hq, hturn _ W W' row hi hg hr⟩
    | _ => exact hx.elim
  · intro l x W K hK
    rw [hfold]
    exact wpIn_asg (r := some l) hK
  · rintro l pre x W ⟨hj, Pr', hr⟩ hl
    let mS : Nat → Value := fun k => if k < N then undef else m (k - N)
    have hmS : ∀ k, mS (N + k) = m k := fun k => by
      show (if N + k < N then undef else m (N + k - N)) = m k
      rw [if_neg (by omega), Nat.add_sub_cancel_left]
    have hsz : a.tmps.size = N := hr.sz
    have hevx : Rep (rd W Pr') (el x.1) (ev x.1) := (hev x.1 x.2).mono hr.keep
    have h1 : Rel E N ⟨W, mS, rd W Pr'⟩ w0 Pr0 (⟨shiftT N τ, shiftB N (St (pre.map (·.1)))⟩ : ES).den mS Pr' { tmps := a.tmps, defers := [] } W := by
      refine ⟨hr.below, ⟨dfrOk_nil rfl, KeepsOthers.refl _⟩, fun _ _ => rfl, fun _ _ h => h, hr.sz, hr.pr0, hr.new, hr.bnd, hr.glob, fun t u hu => ?_, fun k b hk => ?_, fun k k' b c hk hk' hne => ?_⟩
      · simp only [ES.den, get_shiftT, Option.map_eq_some_iff] at hu
        obtain ⟨u0, hu0, rfl⟩ := hu
        obtain ⟨v, hv, hrr⟩ := hr.tmp t u0 hu0
        exact ⟨v, hv, (SRep.shift hmS).2 hrr⟩
      · obtain ⟨j, rfl, hj'⟩ := get_shiftB N _ k b hk
        rw [hmS]; exact hr.blk j b hj'
      · obtain ⟨j, rfl, hj'⟩ := get_shiftB N _ k b hk
        obtain ⟨j', rfl, hj''⟩ := get_shiftB N _ k' c hk'
        rw [hmS, hmS]; exact hr.sep j j' b c hj' hj'' (fun e => hne (by rw [e]))
    have h2 := h1.put (some p1) (fun q e => by cases e; exact hp1) (v := .val (el x.1)) (x := ev x.1) hevx
    have h3 := h2.put (some p0) (fun q e => by cases e; exact hp0) (v := .val (.int .i64 x.1)) (x := .int .i64 x.1) (Rep.int _ _)
    have hvd : SRep (rd W Pr') mS (.val (if p = p0 then .int .i64 x.1 else el x.1)) (((a.tmps.setIfInBounds p0 (.int .i64 x.1)).setIfInBounds p1 (ev x.1)).getD p undef) := by
      rcases hp with rfl | rfl
      · rw [if_pos rfl]
        have : ((a.tmps.setIfInBounds p (.int .i64 x.1)).setIfInBounds p1 (ev x.1))[p]? = some (.int .i64 x.1) := by
          rw [Array.getElem?_setIfInBounds_ne (fun e => hp01 e.symm)]; simp [hsz, hp0]
        rw [getD_of this]; exact Rep.int _ _
      · rw [if_neg (fun e => hp01 e.symm)]
        have : ((a.tmps.setIfInBounds p0 (.int .i64 x.1)).setIfInBounds p (ev x.1))[p]? = some (ev x.1) := by simp [hsz, hp1]
        rw [getD_of this]; exact hevx
    have e3 : (({ tmps := a.tmps, defers := [] } : Act).put (some p1) (ev x.1)).put (some p0) (.int .i64 x.1) = { tmps := (a.tmps.setIfInBounds p0 (.int .i64 x.1)).setIfInBounds p1 (ev x.1), defers := [] } := by
      simp only [Act.put]
      congr 1
      rw [Array.setIfInBounds_comm _ _ (fun e => hp01 e.symm)]
    rw [e3] at h3
    have h4 := h3.put (some d) (fun q e => by cases e; exact hd) hvd
    have hpe := hround (pre.map (·.1)) x.1 hj (by simpa using hl) x.2
    have hsem := pexec_sound hmo y _ _ hoky (some l) (.inr hny) hpe ⟨W, mS, rd W Pr'⟩ w0 Pr0 mS Pr' _ W h4
    refine wpIn_any (n := 0) (wpIn_mono hsem ?_)
    rintro e a2 W2 ⟨s', m2, Pr2, hq, hrel2⟩
    have hkp : KeepsOthers W W2 := hrel2.dfr.2
    have hKp : Kg (rd w Pr) W W2 := fun q x hq hA => (rd_some.1 (hrel2.keep q x (hr.keep q x hq))).2
    have hmap : (pre ++ [x]).map (·.1) = pre.map (·.1) ++ [x.1] := by simp
    cases e with
    | normal =>
      obtain ⟨hj', hσ'⟩ := hq
      exact ⟨hkp, hKp, by rw [hmap]; exact hj', by rw [hmap]; exact ⟨Pr2, hr.backFrom hmS hrel2 hσ'⟩⟩
    | ret =>
      obtain ⟨σx, hqx, hσ'⟩ := hq
      exact ⟨hkp, σx, by rw [hmap]; exact hqx, Pr2, hr.backFrom hmS hrel2 hσ'⟩
    | exit i =>
      obtain ⟨σx, hqx, hσ'⟩ := hq
      exact ⟨hkp, σx, by rw [hmap]; exact hqx, Pr2, hr.backFrom hmS hrel2 hσ'⟩
    | _ => exact hq.elim
  · rintro D xs W hD rfl ⟨hj, hi⟩ hh
    obtain ⟨Pr', h⟩ := fin D W _ hD hi hh
    exact ⟨_, m, Pr', hdone hj, h⟩
  · rintro D c pre W hD ⟨k, hk, rfl⟩ hx hh
    cases c with
    | ret =>
      obtain ⟨σx, hq, hi⟩ := hx
      obtain ⟨Pr', h⟩ := fin D W _ hD hi hh
      exact wpIn_ret ⟨⟨τ, σx⟩, m, Pr', hstop k _ σx hk hq, h⟩
    | exit i =>
      obtain ⟨σx, hq, hi⟩ := hx
      obtain ⟨Pr', h⟩ := fin D W _ hD hi hh
      exact wpIn_exit ⟨⟨τ, σx⟩, m, Pr', hstop k _ σx hk hq, h⟩
    | _ => exact hx.elim
end
end PG
