/- THE PURE READING OF A GO FUNCTION, 7: every step's soundness in one statement. -/
import Derived.Test.YtflpcgcgeffolaaDoorPgF
set_option linter.unusedVariables false
set_option linter.unusedSimpArgs false
namespace PG
open Go Go.RowKit

section
variable {E : PE} {N : Nat} {wk : Gh} {w0 : Fm} {Pr0 : Nat → Nat → Prop} {s : PS} {m : Nat → Value} {Pr : Nat → Nat → Prop} {a : Act} {w : World}

theorem run_at {o : Oper} {x : Value} {w' : World} {f : Sem Value} (h : f.run E.P w = .ok x w') (he : execOp a.eval o = (do pure (.value (← f)))) : (execOp a.eval o).run E.P w = .ok (.value x) w' := by
  rw [he, Sem.run_bind, h]
  rfl

theorem run_len_row {n : Nat} {x : Value} {t ty e : TypeId} (ht : E.P.underlying t = some (.slice e)) (hx : ∃ b c, x = .slice b n c) : (Builtin.len_ #[t] ty #[x]).run E.P w = .ok (.int .i64 n) w := by
  obtain ⟨b, c, rfl⟩ := hx
  simp [Builtin.len_, run_underlying ht, goInt]

theorem lst_form {g : Addr → Option Value} {n : Nat} {cs : List PV} {x : Value} (h : Rep g (.lst n cs) x) : ∃ b c, x = .slice b n c := by
  rcases h.lst_inv with ⟨rfl, rfl, rfl⟩ | ⟨ad, cap, xs, rfl, _⟩
  · exact ⟨_, _, rfl⟩
  · exact ⟨_, _, rfl⟩

theorem pbuiltin_sound (h : Rel E N wk w0 Pr0 s m Pr a w) {o : Oper} {c : Call} {b : Builtin} (hop : o.op = .call c) (hb : c.callee = .builtin b) {out : Out} {fz : List Nat} {s' : PS}
    {K : Act → World → Prop} {Q : Exit → Act → World → Prop} (hd : ∀ d, o.dst = some d → d < N)
    (hs : pbuiltin E b c.argTypes.toList (c.args.toList.map (res E s.τ s.σ)) = some (out, fz)) (ha : Appl E s o.dst fz out s')
    (hK : ∀ m' Pr' a' w', Rel E N wk w0 Pr0 s' m' Pr' a' w' → K a' w') : o.wp E.P a w K Q := by
  obtain ⟨dst, op, type, pos, after, guard⟩ := o
  simp only at hop
  subst hop
  obtain ⟨callee, args, argTypes⟩ := c
  simp only at hb
  subst hb
  obtain ⟨args⟩ := args
  obtain ⟨ts⟩ := argTypes
  simp only at hs
  obtain ⟨Pr1, hP, h1⟩ := h.freeze fz
  have exe : ∀ {f : Sem Value}, (∀ cs, builtin b ⟨ts⟩ type cs ⟨args.map a.eval⟩ = (do pure (.value (← f)))) →
      execOp a.eval ⟨dst, .call ⟨.builtin b, ⟨args⟩, ⟨ts⟩⟩, type, pos, after, guard⟩ = (do pure (.value (← f))) := by
    intro f hf
    simp only [execOp, resolve, pure_bind, invoke, List.map_toArray]
    exact hf _
  unfold pbuiltin at hs
  split at hs
  · -- len
    rename_i t x hargs
    obtain ⟨y, rfl, rfl⟩ : ∃ y, args = [y] ∧ res E s.τ s.σ y = x := by
      cases args with
      | nil => simp at hargs
      | cons y l => cases l with
        | nil => simp at hargs; exact ⟨y, rfl, hargs⟩
        | cons z l => simp at hargs
    have fin : ∀ {v : Int}, out = .val (.val (.int .i64 v)) → fz = [] → (Builtin.len_ #[t] type #[a.eval y]).run E.P w = .ok (.int .i64 v) w →
        Oper.wp E.P ⟨dst, .call ⟨.builtin .len, ⟨[y]⟩, ⟨[t]⟩⟩, type, pos, after, guard⟩ a w K Q := by
      intro v ho hf hr
      subst ho; subst hf
      simp only [Appl] at ha
      subst ha
      exact val_step (v := .val (.int .i64 v)) h1 hd (run_at hr (exe (fun _ => rfl))) (Rep.int _ _) (fun m' Pr' a' w' hr => hK m' Pr' a' w' hr)
    split at hs
    · rename_i n cs hl hv
      cases hs
      exact fin rfl rfl (run_len_row (lk_slice hl) (lst_form (h.opSV (res_val hv) : Rep _ _ _)))
    · rename_i hl hv
      cases hs
      have he : a.eval y = .slice none 0 0 := h.opSV (res_nil hv)
      refine fin rfl rfl ?_
      exact run_len_row (n := 0) (lk_slice hl) ⟨none, 0, he⟩
    · rename_i k e z n cs hl hv
      cases hs
      obtain ⟨ho, fl, hk⟩ := res_row hv
      have he : a.eval y = m k := h.opSV ho
      obtain ⟨xs, _, hsh, _⟩ := h.blk k _ hk
      refine fin rfl rfl (run_len_row (lk_slice hl) ?_)
      rw [he]
      rcases hsh.2 with ⟨h0, h00⟩ | ⟨g, cap, cur, h0, _⟩
      · rw [h0, h00]; exact ⟨_, _, rfl⟩
      · rw [h0]; exact ⟨_, _, rfl⟩
    · rename_i k o n b hl hv
      cases hs
      obtain ⟨ho, fl, hk⟩ := res_sub hv
      obtain ⟨g, c, _, he, _⟩ := (h.opSV ho : SRep _ _ _ _)
      exact fin rfl rfl (run_len_row (lk_slice hl) ⟨_, _, he⟩)
    · rename_i st hl hv
      cases hs
      have he := (h.opSV (res_val hv) : Rep _ _ _).str_inv
      exact fin rfl rfl (by simp [Builtin.len_, he, run_underlying (lk_str hl), goInt])
    · rename_i n e hl
      cases hs
      exact fin rfl rfl (by simp [Builtin.len_, run_underlying (lk_array hl), goInt])
    · cases hs
  · -- max
    rename_i x y hargs
    obtain ⟨p, q, rfl, rfl, rfl⟩ : ∃ p q, args = [p, q] ∧ res E s.τ s.σ p = x ∧ res E s.τ s.σ q = y := by
      match args, hargs with
      | [p, q], hargs => simp at hargs; exact ⟨p, q, rfl, hargs.1, hargs.2⟩
    simp only [Option.map_eq_some_iff] at hs
    obtain ⟨r, hr, he⟩ := hs
    cases he
    simp only [Appl] at ha
    subst ha
    unfold pmax2 at hr
    split at hr
    · rename_i k x1 k' y1 hp hq
      cases hr
      have e1 := (h.opSV (res_val hp) : Rep _ _ _).int_inv
      have e2 := (h.opSV (res_val hq) : Rep _ _ _).int_inv
      refine val_step (v := .val (.int k (max x1 y1))) (x := .int k (max x1 y1)) h1 hd (run_at (f := Builtin.max_ _ type #[a.eval p, a.eval q]) ?_ (exe (fun _ => rfl))) (Rep.int _ _) (fun m' Pr' a' w' hr => hK m' Pr' a' w' hr)
      rw [e1, e2]
      simp [Builtin.max_, Builtin.max2]
      split <;> omega
    · cases hr
  · -- min
    rename_i x y hargs
    obtain ⟨p, q, rfl, rfl, rfl⟩ : ∃ p q, args = [p, q] ∧ res E s.τ s.σ p = x ∧ res E s.τ s.σ q = y := by
      match args, hargs with
      | [p, q], hargs => simp at hargs; exact ⟨p, q, rfl, hargs.1, hargs.2⟩
    simp only [Option.map_eq_some_iff] at hs
    obtain ⟨r, hr, he⟩ := hs
    cases he
    simp only [Appl] at ha
    subst ha
    unfold pmax2 at hr
    split at hr
    · rename_i k x1 k' y1 hp hq
      cases hr
      have e1 := (h.opSV (res_val hp) : Rep _ _ _).int_inv
      have e2 := (h.opSV (res_val hq) : Rep _ _ _).int_inv
      refine val_step (v := .val (.int k (min x1 y1))) (x := .int k (min x1 y1)) h1 hd (run_at (f := Builtin.min_ _ type #[a.eval p, a.eval q]) ?_ (exe (fun _ => rfl))) (Rep.int _ _) (fun m' Pr' a' w' hr => hK m' Pr' a' w' hr)
      rw [e1, e2]
      simp [Builtin.min_, Builtin.min2]
      split <;> omega
    · cases hr
  · -- append
    rename_i t t' x y hargs
    obtain ⟨p, q, rfl, rfl, rfl⟩ : ∃ p q, args = [p, q] ∧ res E s.τ s.σ p = x ∧ res E s.τ s.σ q = y := by
      match args, hargs with
      | [p, q], hargs => simp at hargs; exact ⟨p, q, rfl, hargs.1, hargs.2⟩
    split at hs
    · cases hs
    · rename_i htt
      have htt' : t = t' := Decidable.byContradiction htt
      subst htt'
      split at hs
      · rename_i e hl
        split at hs
        · rename_i mm z n' ys hsz hz hy
          split at hs
          · cases hs
          · rename_i hcond
            obtain ⟨i, zv, hi, hzv, hzall⟩ := zr_spec (g := rd w Pr) hz
            obtain ⟨i', hi', hsize⟩ := sz_spec hsz
            rw [hi] at hi'; cases hi'
            subst hsize
            have c1 : ¬ i.size = 0 := fun e => hcond (.inl e)
            have c2 : z.length = i.size := Decidable.byContradiction fun e => hcond (.inr (.inl e))
            have c3 : ys.length = n' * i.size := Decidable.byContradiction fun e => hcond (.inr (.inr e))
            have hbyt : byt E.P e = i.bytes := by simp [byt, hi]
            have hzs : zv.cells.size = i.size := by have := hzall.1; simp at this; omega
            have hdst : ∀ k b, Appl E s dst fz (.app k b) s' → ∃ d, dst = some d := fun k b ⟨d, hd', _⟩ => ⟨d, hd'⟩
            split at hs
            · -- onto nil
              rename_i hx
              split at hs
              · rename_i hc
                cases hs
                have hrep := h.rvSlice h1 hP hy (fun k hk => hk)
                obtain ⟨d, hdd, -, hs'⟩ := ha
                simp only at hdd
                subst hdd
                obtain ⟨v', w', us, hrun, hus, hown, hgrow, hat⟩ := run_append_rep w 0 t type e i zv (lk_slice hl) hi hzv hzs (Nat.pos_of_ne_zero c1) (.slice none 0 0) 0 [] (World.ownsRow_nil w _ e _) hrep c3
                  (by simpa using hc.1) (by rw [← hbyt]; simpa using hc.2) (Nat.zero_le _)
                have ep : a.eval p = .slice none 0 0 := h.opSV (res_nil hx)
                refine app_step h1 rfl (hd d rfl) (k := none) (cs := []) (n := 0) ⟨rfl, rfl, rfl⟩ All2.nil hus hown hgrow hat rfl (run_at (f := Builtin.append_ #[t, t] type #[a.eval p, a.eval q]) (by rw [ep]; exact hrun) (exe (fun _ => rfl))) ?_
                intro m' Pr' a' w' hr
                refine hK m' Pr' a' w' ?_
                rw [hs']
                simpa using hr
              · cases hs
            · -- onto a row
              rename_i k e' m' n xs hx
              split at hs
              · rename_i hc
                cases hs
                obtain ⟨rfl, rfl, hc1, hc2, hc3⟩ := hc
                have hrep := h.rvSlice h1 hP hy (fun k hk => hk)
                obtain ⟨d, hdd, hk, hs'⟩ := ha
                simp only at hdd
                subst hdd
                obtain ⟨ho, fl, hkk⟩ := res_row hx
                obtain ⟨⟨b0, hb0⟩, hkn⟩ := hk k rfl
                rw [hkk] at hb0; cases hb0
                have hk1 : (⟨s.τ, frzσ s.σ (frzOf (res E s.τ s.σ q))⟩ : PS).σ k = some (.row e' i.size n xs, false) := by simp only [frzσ, hkn, if_false, hkk]
                obtain ⟨xv, hxall, hxsh, hxpr⟩ := h1.blk k _ hk1
                obtain ⟨v', w', us, hrun, hus, hown, hgrow, hat⟩ := run_append_rep w 0 t type e' i zv (lk_slice hl) hi hzv hzs (Nat.pos_of_ne_zero c1) (m k) n xv hxsh hrep c3 hc1 (by rw [← hbyt]; exact hc2) (Nat.zero_le _)
                have ep : a.eval p = m k := h.opSV ho
                refine app_step h1 rfl (hd d rfl) (k := some k) (v := m k) (cs := xs) (n := n) ⟨rfl, hk1⟩ hxall hus hown hgrow hat (ownsRow_home hxsh) (run_at (f := Builtin.append_ #[t, t] type #[a.eval p, a.eval q]) (by rw [ep]; exact hrun) (exe (fun _ => rfl))) ?_
                intro m' Pr' a' w' hr
                refine hK m' Pr' a' w' ?_
                rw [hs']
                exact hr
              · cases hs
            · cases hs
        · cases hs
      · cases hs
  · cases hs

theorem bound_cases (h : Rel E N wk w0 Pr0 s m Pr a w) {lo : Option Operand} {d l : Int} (hb : bound (lo.map (res E s.τ s.σ)) d = some l) :
    (lo.map a.eval = none ∧ l = d) ∨ ∃ k, lo.map a.eval = some (.int k l) := by
  cases lo with
  | none =>
    simp only [Option.map_none, bound, Option.some.injEq] at hb
    exact .inl ⟨rfl, hb.symm⟩
  | some y =>
    simp only [Option.map_some, bound] at hb
    obtain ⟨k, ek⟩ := h.rvInt hb
    exact .inr ⟨k, by simp [ek]⟩

theorem allSome_length {α : Type} : ∀ {l : List (Option α)} {r : List α}, allSome l = some r → r.length = l.length
  | [], r, h => by simp only [allSome, Option.some.injEq] at h; subst h; rfl
  | none :: _, r, h => by simp [allSome] at h
  | some x :: l, r, h => by
    simp only [allSome] at h
    split at h
    · rename_i r' hr; cases h; simp [allSome_length hr]
    · cases h

theorem allSome_get {α : Type} {o : Option α} : ∀ {l : List (Option α)} {r : List α}, allSome l = some r → ∀ {j : Nat}, l[j]? = some o → ∃ q, r[j]? = some q ∧ o = some q
  | [], r, h, j, hj => by simp at hj
  | none :: _, r, h, j, hj => by simp [allSome] at h
  | some x :: l, r, h, j, hj => by
    simp only [allSome] at h
    split at h
    · rename_i r' hr
      cases h
      cases j with
      | zero => simp at hj; exact ⟨x, rfl, hj.symm⟩
      | succ j => exact allSome_get hr (j := j) (by simpa using hj)
    · cases h

theorem nodup_inj {α : Type} {l : List α} (h : l.Nodup) {i j : Nat} {k : α} (hi : l[i]? = some k) (hj : l[j]? = some k) : i = j := by
  obtain ⟨h1, e1⟩ := List.getElem?_eq_some_iff.1 hi
  obtain ⟨h2, e2⟩ := List.getElem?_eq_some_iff.1 hj
  have hp := List.pairwise_iff_getElem.1 h
  rcases Nat.lt_trichotomy i j with hlt | he | hlt
  · exact absurd (e1.trans e2.symm) (hp i j h1 h2 hlt)
  · exact he
  · exact absurd (e2.trans e1.symm) (hp j i h2 h1 hlt)

theorem zrow_ne {z : List PV} {n : Nat} (h : z.length = n) (hn : n ≠ 0) : z ≠ [] := by rintro rfl; exact hn (by simpa using h.symm)

set_option maxHeartbeats 4000000 in
/-- THE STEP: whatever the pure step says of an operation that may look at blocks, the model's operation does. -/
theorem stepR_sound (h : Rel E N wk w0 Pr0 s m Pr a w) {o : Oper} {out : Out} {fz : List Nat} {s' : PS} {K : Act → World → Prop} {Q : Exit → Act → World → Prop} (hd : ∀ d, o.dst = some d → d < N)
    (hnm : isNew o.op = true → ∀ d, o.dst = some d → ∀ t u, s.τ t = some u → u.key ≠ some d)
    (hs : stepR E o.op (res E s.τ s.σ) = some (out, fz)) (ha : Appl E s o.dst fz out s') (hK : ∀ m' Pr' a' w', Rel E N wk w0 Pr0 s' m' Pr' a' w' → K a' w') : o.wp E.P a w K Q := by
  obtain ⟨Pr1, hP, h1⟩ := h.freeze fz
  obtain ⟨dst, op, type, pos, after, guard⟩ := o
  cases op <;> simp only [stepR, reduceCtorEq] at hs
  case alloc t =>
    simp only [Option.map_eq_some_iff] at hs
    obtain ⟨cs, hz, he⟩ := hs
    cases he
    obtain ⟨i, z, hi, hzv, hall⟩ := zr_spec (g := rd w Pr1) hz
    obtain ⟨d, hdd, rfl⟩ := ha
    simp only at hdd
    subst hdd
    refine new_step h1 rfl (hd d rfl) (b := .box cs) (x := .pointer (some ⟨w.heap.size, 0, none⟩)) (ob := .cells z.cells t) (hnm rfl d rfl) ?_ rfl (fun _ _ => rfl) hall ⟨w.heap.size, t, z.cells, rfl, heap_alloc_new w _, rfl⟩
      (fun m' Pr' a' w' hr => hK m' Pr' a' w' hr)
    simp [execOp, Instr.alloc, zeroValue, typeInfo, hi, hzv, newVar, newRow]
  case box t x =>
    split at hs
    · rename_i r hr
      split at hs
      · rename_i p f hc
        split at hs
        · rename_i vs hvs
          cases hs
          have hrep := h.close h1 hP hr hc (fun k hk => hk)
          have hall := hrep.cells hvs
          obtain ⟨d, hdd, rfl⟩ := ha
          simp only at hdd
          subst hdd
          refine new_step h1 rfl (hd d rfl) (b := .box vs) (x := .pointer (some ⟨w.heap.size, 0, none⟩)) (ob := .cells (a.eval x).cells t) (hnm rfl d rfl) ?_ rfl (fun _ _ => rfl) hall ⟨w.heap.size, t, _, rfl, heap_alloc_new w _, rfl⟩
            (fun m' Pr' a' w' hr => hK m' Pr' a' w' hr)
          simp [execOp, Instr.box, newVar, newRow]
        · cases hs
      · cases hs
    · cases hs
  case build t parts =>
    split at hs
    · rename_i vs f z pl hcl hz hpl
      split at hs
      · rename_i cs hf
        cases hs
        simp only [Appl] at ha
        subst ha
        obtain ⟨i, zv, hi, hzv, hall⟩ := zr_spec (g := rd w Pr1) hz
        have hcl' : closeL ((parts.toList.map (·.2)).map (res E s.τ s.σ)) = some (vs, fz) := by rw [List.map_map]; exact hcl
        obtain ⟨hlen, hreps⟩ := h.closeL h1 hP _ hcl' (fun k hk => hk)
        obtain ⟨xs', hfill, hall'⟩ := fill_sound (fun i => pl[i]?) (parts.toList.map (·.1)) vs ((parts.toList.map (·.2)).map a.eval) z cs zv.cells hall (by simpa using hlen) (by simp)
          (fun j p x hp hx => by
            simp only [List.getElem?_map, Option.map_eq_some_iff] at hx
            obtain ⟨y, ⟨q, hq, rfl⟩, rfl⟩ := hx
            exact hreps j p q.2 hp (by simp [hq])) hf
        unfold places at hpl
        split at hpl
        · rename_i fs hl
          obtain ⟨Fs, hu, rfl⟩ := lk_struct hl
          have hrun := placesL_run (P := E.P) w Fs.toList hpl
          refine val_step (v := .val (.agg cs)) (x := .agg xs') h1 hd (run_at (f := Instr.build t (parts.map fun (i, x) => (i, a.eval x))) ?_ rfl) (All2.agg hall') (fun m' Pr' a' w' hr => hK m' Pr' a' w' hr)
          have hrun' : (Fs.mapM fun f => do pure (f.offset, ← Go.sizeOf f.type) : Sem (Array (Nat × Nat))).run E.P w = .ok pl.toArray w := by
            rw [Array.mapM_eq_mapM_toList]
            rw [Sem.run_map, hrun]
            rfl
          simp only [Instr.build, zeroValue, typeInfo, Sem.run_bind, run_program, hi, hzv, Result.andThen_ok, Sem.run_pure, run_underlying hu, hrun']
          have e1 : (Array.map (fun x => (x.fst, a.eval x.snd)) parts).toList = (parts.toList.map (·.1)).zip ((parts.toList.map (·.2)).map a.eval) := by
            simp only [Array.toList_map, List.map_map]
            rw [List.zip_map']
            rfl
          simp only [e1, List.getElem?_toArray, hfill, Sem.run_pure]
        · cases hpl
      · cases hs
    · cases hs
  case buildSlice t len parts =>
    split at hs
    · rename_i vs f e hcl hl
      split at hs
      · rename_i n z hsz hz
        split at hs
        · cases hs
        · rename_i hcond
          split at hs
          · rename_i cs hf
            cases hs
            obtain ⟨i, zv, hi, hzv, hall⟩ := zr_spec (g := rd w Pr1) hz
            have c1 : n ≠ 0 := fun e => hcond (.inl e)
            have c2 : z.length = n := Decidable.byContradiction fun e => hcond (.inr (.inl e))
            have c3 : ¬ len * n > 16777216 := fun e => hcond (.inr (.inr e))
            have hcl' : closeL ((parts.toList.map (·.2)).map (res E s.τ s.σ)) = some (vs, fz) := by rw [List.map_map]; exact hcl
            obtain ⟨hlen, hreps⟩ := h.closeL h1 hP _ hcl' (fun k hk => hk)
            have hzrow := zrow_all2 hall (zrow_ne c2 c1) len
            rw [c2] at hzrow
            obtain ⟨xs', hfill, hall'⟩ := fill_sound (fun i => some (i * n, n)) (parts.toList.map (·.1)) vs ((parts.toList.map (·.2)).map a.eval) (zrow z len) cs (madeCells zv.cells (len * n)) hzrow (by simpa using hlen) (by simp)
              (fun j p x hp hx => by
                simp only [List.getElem?_map, Option.map_eq_some_iff] at hx
                obtain ⟨y, ⟨q, hq, rfl⟩, rfl⟩ := hx
                exact hreps j p q.2 hp (by simp [hq])) hf
            obtain ⟨d, hdd, rfl⟩ := ha
            simp only at hdd
            subst hdd
            have hlx : xs'.size = len * n := by
              have e1 := hall'.1
              have e2 : cs.length = (zrow z len).length := fillPV_length _ _ _ _ hf
              have e3 := hzrow.1
              have e4 := size_madeCells zv.cells (len * n)
              simp only [Array.length_toList] at e1 e3
              omega
            have hmax : len ≤ maxLen := by
              have : len ≤ len * n := Nat.le_mul_of_pos_right len (Nat.pos_of_ne_zero c1)
              simp only [maxLen]; omega
            have hshape : Shape (w.alloc (.cells xs' e)) (.slice (some ⟨w.heap.size, 0, none⟩) len len) xs'.toList (.row e n len cs) :=
              ⟨by simpa using hlx, .inr ⟨w.heap.size, len, xs', rfl, Nat.zero_le _, heap_alloc_new w _, Nat.le_refl _, hmax, hlx, by rw [← hlx]; exact List.take_of_length_le (by simp)⟩⟩
            refine new_step h1 rfl (hd d rfl) (b := .row e n len cs) (x := .slice (some ⟨w.heap.size, 0, none⟩) len len) (ob := .cells xs' e) (hnm rfl d rfl) ?_ rfl (fun _ hb => by cases hb) hall' hshape
              (fun m' Pr' a' w' hr => hK m' Pr' a' w' hr)
            refine run_at (f := Instr.buildSlice t len (parts.map fun (i, x) => (i, a.eval x))) ?_ rfl
            have e1 : (Array.map (fun x => (x.fst, a.eval x.snd)) parts).toList = (parts.toList.map (·.1)).zip ((parts.toList.map (·.2)).map a.eval) := by
              simp only [Array.toList_map, List.map_map]
              rw [List.zip_map']
              rfl
            have c3' : ¬ (len * n > 2 ^ 24) := by simpa using c3
            by_cases h0 : len * n = 0
            · have hlen0 : len = 0 := by
                rcases Nat.mul_eq_zero.1 h0 with e | e
                · exact e
                · exact absurd e c1
              subst hlen0
              have : madeCells zv.cells (0 * n) = #[] := by simp [madeCells, Array.range_zero']
              rw [this] at hfill
              simp only [Instr.buildSlice, Sem.run_bind, run_underlying (lk_slice hl), Result.andThen_ok, run_sizeOf hsz, Nat.zero_mul, gt_iff_lt, Nat.not_lt_zero, if_false, if_true, Sem.run_pure, Array.range_zero', List.map_toArray, List.map_nil, e1]
              simp only [hfill, Sem.run_bind, newRow, run_newObj, Result.andThen_ok, Sem.run_pure, World.alloc_eq]
            · simp only [Instr.buildSlice, Sem.run_bind, run_underlying (lk_slice hl), Result.andThen_ok, run_sizeOf hsz, if_neg c3', if_neg h0, zeroValue, typeInfo, run_program, hi, hzv, Sem.run_pure, e1]
              simp only [madeCells] at hfill
              simp only [hfill, Sem.run_bind, newRow, run_newObj, Result.andThen_ok, Sem.run_pure, World.alloc_eq]
          · cases hs
      · cases hs
    · cases hs
  case load t x =>
    split at hs
    · rename_i k off b hr
      simp only [Option.map_eq_some_iff] at hs
      obtain ⟨p, hp, he⟩ := hs
      cases he
      simp only [Appl] at ha
      subst ha
      obtain ⟨ho, fl, hk⟩ := res_ptr hr
      obtain ⟨g, hg, he⟩ := (h.opSV ho : SRep _ _ _ _)
      obtain ⟨xs, hall, hsh, _⟩ := h.blk k _ hk
      obtain ⟨z, hz, hzr⟩ := load_sound (P := E.P) (ad := ⟨g, 0, none⟩) hp hall (w := w) (fun j y hy => by rw [addr_add, Nat.zero_add]; exact hsh.cell hg j y hy)
      rw [addr_add, Nat.zero_add] at hz
      exact val_step (v := .val p) h1 hd (run_at (f := Instr.loadAt t (a.eval x)) (by rw [he]; simp only [Instr.loadAt, Instr.sureAddr, pure_bind]; exact hz) rfl) (hzr.mono (rd_mono hP)) (fun m' Pr' a' w' hr => hK m' Pr' a' w' hr)
    · rename_i cs hr
      simp only [Option.map_eq_some_iff] at hs
      obtain ⟨p, hp, he⟩ := hs
      cases he
      simp only [Appl] at ha
      subst ha
      obtain ⟨ad, xs, he, hall, hm⟩ := (Rep.ref_inv (h.opSV (res_val hr) : Rep _ _ _))
      obtain ⟨z, hz, hzr⟩ := load_sound (P := E.P) (ad := ad) hp hall (w := w) (fun j y hy => (rd_some.1 (hm j y hy)).2)
      rw [Addr.add_zero'] at hz
      exact val_step (v := .val p) h1 hd (run_at (f := Instr.loadAt t (a.eval x)) (by rw [he]; simp only [Instr.loadAt, Instr.sureAddr, pure_bind]; exact hz) rfl) (hzr.mono (rd_mono hP)) (fun m' Pr' a' w' hr => hK m' Pr' a' w' hr)
    · cases hs
  case store t x y =>
    split at hs
    · rename_i k off b r hx hy
      split at hs
      · rename_i p f n hc hsz
        split at hs
        · rename_i vs hvs
          split at hs
          · cases hs
          · rename_i hcond
            cases hs
            have c1 : vs.length = n := Decidable.byContradiction fun e => hcond (.inl e)
            have c2 : off + n ≤ b.cells.length := Nat.le_of_not_gt fun e => hcond (.inr (.inl e))
            have c3 : k ∉ fz := fun e => hcond (.inr (.inr e))
            obtain ⟨⟨b0, hb0⟩, _, rfl⟩ := ha
            obtain ⟨ho, fl, hk⟩ := res_ptr hx
            rw [hk] at hb0; cases hb0
            obtain ⟨g, hg, he⟩ := (h.opSV ho : SRep _ _ _ _)
            have hrep := h.close h1 hP hy hc (fun k hk => hk)
            have hall := hrep.cells hvs
            have hk1 : (⟨s.τ, frzσ s.σ fz⟩ : PS).σ k = some (b, false) := by simp only [frzσ, c3, if_false, hk]
            obtain ⟨w', hrun, hrel⟩ := Rel.storeN vs _ off 0 h1 hk1 hg hall (by omega)
            unfold Oper.wp
            have : (execOp a.eval ⟨dst, .store t x y, type, pos, after, guard⟩).run E.P w = .ok .skip w' := by
              have hsize : (a.eval y).cells.size = n := by have := hall.1; simp at this; omega
              have e0 : (storeVar t ⟨g, off, none⟩ (a.eval y)).run E.P w = .ok () w' := by
                simp only [storeVar, Sem.run_bind, run_sizeOf hsz, Result.andThen_ok, hsize, ne_eq, not_true, if_false]
                exact hrun
              simp only [execOp, he, Instr.storeAt, Instr.sureAddr, pure_bind, Sem.run_bind, e0, Result.andThen_ok, Sem.run_pure]
            rw [this]
            rw [Nat.add_zero] at hrel
            have hput := hrel.put dst hd (v := .junk) (x := undef) trivial
            exact hK _ _ _ _ hput
        · cases hs
      · cases hs
    · cases hs
  case nilCheck x =>
    split at hs
    · rename_i k o b hr
      cases hs
      simp only [Appl] at ha
      subst ha
      obtain ⟨ho, fl, hk⟩ := res_ptr hr
      have hsr := h1.opSV (s := ⟨s.τ, frzσ s.σ []⟩) ho
      obtain ⟨g, hg, he⟩ := (h.opSV ho : SRep _ _ _ _)
      exact val_step (v := .ptr k o) (x := a.eval x) h1 hd (by simp [execOp, he]) hsr (fun m' Pr' a' w' hr => hK m' Pr' a' w' hr)
    · rename_i cs hr
      cases hs
      simp only [Appl] at ha
      subst ha
      have hsr := h1.opSV (s := ⟨s.τ, frzσ s.σ []⟩) (res_val hr)
      obtain ⟨ad, xs, he, hall, hm⟩ := (Rep.ref_inv (h.opSV (res_val hr) : Rep _ _ _))
      exact val_step (v := .val (.ref cs)) (x := a.eval x) h1 hd (by simp [execOp, he]) hsr (fun m' Pr' a' w' hr => hK m' Pr' a' w' hr)
    · rename_i f cs hr
      cases hs
      simp only [Appl] at ha
      subst ha
      have hsr := h1.opSV (s := ⟨s.τ, frzσ s.σ []⟩) (res_val hr)
      obtain ⟨xs, he, _⟩ := (Rep.clo_inv (h.opSV (res_val hr) : Rep _ _ _))
      exact val_step (v := .val (.clo f cs)) (x := a.eval x) h1 hd (by simp [execOp, he]) hsr (fun m' Pr' a' w' hr => hK m' Pr' a' w' hr)
    · cases hs
  case makeFunc fn first captured =>
    cases fn with
    | func f =>
      simp only at hs
      split at hs
      · cases hs
      · rename_i hfirst
        have hfirst' : first = #[] := Array.eq_empty_of_size_eq_zero (Decidable.byContradiction hfirst)
        subst hfirst'
        split at hs
        · rename_i vs fz' hcl
          cases hs
          simp only [Appl] at ha
          subst ha
          obtain ⟨hlen, hreps⟩ := h.closeL h1 hP _ hcl (fun k hk => hk)
          refine val_step (v := .val (.clo f vs)) (x := .func (.func f) #[] (captured.map a.eval)) h1 hd (by simp [execOp, Instr.makeFunc]) (Rep.clo f vs _ (by simp [hlen]) (fun j p x hp hx => ?_)) (fun m' Pr' a' w' hr => hK m' Pr' a' w' hr)
          simp only [Array.getElem?_map, Option.map_eq_some_iff] at hx
          obtain ⟨y, hy, rfl⟩ := hx
          exact hreps j p y hp (by simpa using hy)
        · cases hs
    | _ => simp at hs
  case makeSlice t l c =>
    split at hs
    · rename_i e n mm hl hn hm
      split at hs
      · rename_i sz' z hsz hz
        split at hs
        · rename_i hc
          cases hs
          obtain ⟨rfl, c0, c63, cby, cs0, cz⟩ := hc
          obtain ⟨i, zv, hi, hzv, hall⟩ := zr_spec (g := rd w Pr1) hz
          obtain ⟨i', hi', hsize⟩ := sz_spec hsz
          rw [hi] at hi'; cases hi'
          subst hsize
          have hbyt : byt E.P e = i.bytes := by simp [byt, hi]
          obtain ⟨d, hdd, rfl⟩ := ha
          simp only at hdd
          subst hdd
          obtain ⟨kl, el⟩ := h.rvInt hn
          obtain ⟨kc, ec⟩ := h.rvInt hm
          have hzrow := zrow_all2 hall (zrow_ne cz cs0) n.toNat
          rw [cz] at hzrow
          have hrun := run_make (P := E.P) w t e i zv (lk_slice hl) hi hzv kl kc n n c0 (Int.le_refl _) (by rw [hbyt] at cby; omega) c63
          have hshape : Shape (w.alloc (.cells (madeCells zv.cells (n.toNat * i.size)) e)) (.slice (some ⟨w.heap.size, 0, none⟩) n.toNat n.toNat) (madeCells zv.cells (n.toNat * i.size)).toList (.row e i.size n.toNat (zrow z n.toNat)) :=
            World.ownsRow_lit w _ n.toNat (Nat.zero_le _) (by simp only [maxLen]; omega) (size_madeCells _ _)
          exact new_step h1 rfl (hd d rfl) (b := .row e i.size n.toNat (zrow z n.toNat)) (x := .slice (some ⟨w.heap.size, 0, none⟩) n.toNat n.toNat) (hnm rfl d rfl)
            (run_at (f := Instr.makeSlice t (a.eval l) (a.eval c)) (by rw [el, ec]; exact hrun) rfl) rfl (fun _ hb => by cases hb) hzrow hshape (fun m' Pr' a' w' hr => hK m' Pr' a' w' hr)
        · cases hs
      · cases hs
    · cases hs
  case slice t x lo hi mx =>
    cases mx with
    | some _ => simp at hs
    | none =>
    simp only at hs
    split at hs
    · rename_i e hl
      split at hs
      · rename_i n hsz
        have cut : ∀ {ad : Addr} {nn cap : Nat} {l hh : Int}, a.eval x = .slice (some ad) nn cap → nn ≤ cap → bound (lo.map (res E s.τ s.σ)) 0 = some l → bound (hi.map (res E s.τ s.σ)) nn = some hh → 0 ≤ l → l ≤ hh → hh ≤ nn →
            (Instr.sliceAt t (a.eval x) (lo.map a.eval) (hi.map a.eval) none).run E.P w = .ok (.slice (if cap = l.toNat then some ad else some (ad.add (l.toNat * n))) (hh.toNat - l.toNat) (cap - l.toNat)) w := by
          intro ad nn cap l hh ex hnc hlo hhi c0 c1 c2
          have hb : (Instr.sliceBounds true nn cap (lo.map a.eval) (hi.map a.eval) none).run E.P w = .ok (l.toNat, hh.toNat, cap) w := run_bounds c0 c1 (by omega) (bound_cases h hhi) (bound_cases h hlo)
          rw [ex]
          simp only [Instr.sliceAt, Sem.run_bind, run_underlying (lk_slice hl), Result.andThen_ok, Instr.slice, hb, run_sizeOf hsz, Sem.run_pure, Option.map_some]
        split at hs
        · rename_i k e' z nn cs hx
          split at hs
          · rename_i l hh hlo hhi
            split at hs
            · rename_i hc
              cases hs
              obtain ⟨c0, c1, c2⟩ := hc
              simp only [Appl] at ha
              subst ha
              obtain ⟨ho, fl, hk⟩ := res_row hx
              have ex : a.eval x = m k := h.opSV ho
              obtain ⟨xs, _, hsh, _⟩ := h.blk k _ hk
              rcases hsh.2 with ⟨h0, h00⟩ | ⟨g, cap, cur, h0, _, hh', hnc, hcm, _⟩
              · omega
              · refine val_step (v := .sub k (l.toNat * n) (hh.toNat - l.toNat)) h1 hd (run_at (f := Instr.sliceAt t (a.eval x) (lo.map a.eval) (hi.map a.eval) none) (cut (ex.trans h0) hnc hlo hhi c0 (by omega) c2) (by cases lo <;> cases hi <;> rfl)) ⟨g, cap - l.toNat, by rw [h0]; rfl, ?_, by omega, by omega⟩ (fun m' Pr' a' w' hr => hK m' Pr' a' w' hr)
                rw [if_neg (by omega), addr_add, Nat.zero_add]
            · cases hs
          · cases hs
        · rename_i k o nn b hx
          split at hs
          · rename_i l hh hlo hhi
            split at hs
            · rename_i hc
              cases hs
              obtain ⟨c0, c1, c2⟩ := hc
              simp only [Appl] at ha
              subst ha
              obtain ⟨ho, fl, hk⟩ := res_sub hx
              obtain ⟨g, cap, hg, ex, hnc, hcm⟩ := (h.opSV ho : SRep _ _ _ _)
              refine val_step (v := .sub k (o + l.toNat * n) (hh.toNat - l.toNat)) h1 hd (run_at (f := Instr.sliceAt t (a.eval x) (lo.map a.eval) (hi.map a.eval) none) (cut ex hnc hlo hhi c0 (by omega) c2) (by cases lo <;> cases hi <;> rfl)) ⟨g, cap - l.toNat, hg, ?_, by omega, by omega⟩ (fun m' Pr' a' w' hr => hK m' Pr' a' w' hr)
              rw [if_neg (by omega), addr_add]
            · cases hs
          · cases hs
        · rename_i p hx
          split at hs
          · rename_i nn cs hv
            split at hs
            · rename_i l hh hlo hhi
              split at hs
              · rename_i hc
                cases hs
                obtain ⟨c0, c1, c2, c3⟩ := hc
                simp only [Appl] at ha
                subst ha
                have hrep := h.rvSlice h1 hP (x := x) (n := nn) (cs := cs) (by rw [hx]; exact hv) (by rw [hx]; simp [frzOf])
                rcases hrep.lst_inv with ⟨ex, rfl, rfl⟩ | ⟨ad, cap, xs, ex, hnc, hcm, hall, hm⟩
                · have e1 : l.toNat = 0 := by omega
                  have e2 : hh.toNat = 0 := by omega
                  have hb : (Instr.sliceBounds true 0 0 (lo.map a.eval) (hi.map a.eval) none).run E.P w = .ok (l.toNat, hh.toNat, 0) w := run_bounds c0 c1 c2 (bound_cases h hhi) (bound_cases h hlo)
                  refine val_step (v := .val (.lst (hh.toNat - l.toNat) ((([] : List PV).drop (l.toNat * n)).take ((hh.toNat - l.toNat) * n)))) (x := .slice none 0 0) h1 hd (run_at (f := Instr.sliceAt t (a.eval x) (lo.map a.eval) (hi.map a.eval) none) ?_ (by cases lo <;> cases hi <;> rfl)) ?_ (fun m' Pr' a' w' hr => hK m' Pr' a' w' hr)
                  · rw [ex]
                    simp only [Instr.sliceAt, Sem.run_bind, run_underlying (lk_slice hl), Result.andThen_ok, Instr.slice, hb, run_sizeOf hsz, Sem.run_pure, e1, e2]
                    rfl
                  · simp only [e1, e2, Nat.sub_self, Nat.zero_mul, List.take_zero]
                    exact Rep.nil
                · refine val_step (v := .val (.lst (hh.toNat - l.toNat) ((cs.drop (l.toNat * n)).take ((hh.toNat - l.toNat) * n)))) h1 hd (run_at (f := Instr.sliceAt t (a.eval x) (lo.map a.eval) (hi.map a.eval) none) (cut ex hnc hlo hhi c0 c1 c2) (by cases lo <;> cases hi <;> rfl)) ?_ (fun m' Pr' a' w' hr => hK m' Pr' a' w' hr)
                  have hall2 := (hall.drop (l.toNat * n)).take ((hh.toNat - l.toNat) * n)
                  by_cases hcl : cap = l.toNat
                  · have e1 : hh.toNat - l.toNat = 0 := by omega
                    simp only [hcl, if_true, e1, Nat.zero_mul, List.take_zero, Nat.sub_self]
                    exact Rep.lst ad 0 0 [] [] (Nat.le_refl _) (Nat.zero_le _) rfl (fun j x hx => by simp at hx) (fun j x hx => by simp at hx) (fun j c x hc _ => by simp at hc)
                  · simp only [hcl, if_false]
                    refine Rep.lst _ _ _ _ _ (by omega) (by omega) hall2.1 hall2.2.1 (fun j y hy => ?_) hall2.2.2
                    rw [List.getElem?_take] at hy
                    split at hy
                    · rw [add_add]; exact hm _ y (by simpa using hy)
                    · cases hy
              · cases hs
            · cases hs
          · cases hs
        · rename_i hx
          split at hs
          · rename_i l hh hlo hhi
            split at hs
            · rename_i hc
              cases hs
              obtain ⟨c0, c1, c2⟩ := hc
              simp only [Appl] at ha
              subst ha
              have ex : a.eval x = .slice none 0 0 := h.opSV (res_nil hx)
              have e1 : l.toNat = 0 := by omega
              have e2 : hh.toNat = 0 := by omega
              have hb : (Instr.sliceBounds true 0 0 (lo.map a.eval) (hi.map a.eval) none).run E.P w = .ok (l.toNat, hh.toNat, 0) w := run_bounds c0 c1 c2 (bound_cases h hhi) (bound_cases h hlo)
              refine val_step (v := .nil) (x := .slice none 0 0) h1 hd (run_at (f := Instr.sliceAt t (a.eval x) (lo.map a.eval) (hi.map a.eval) none) ?_ (by cases lo <;> cases hi <;> rfl)) rfl (fun m' Pr' a' w' hr => hK m' Pr' a' w' hr)
              rw [ex]
              simp only [Instr.sliceAt, Sem.run_bind, run_underlying (lk_slice hl), Result.andThen_ok, Instr.slice, hb, run_sizeOf hsz, Sem.run_pure, e1, e2]
              rfl
            · cases hs
          · cases hs
        · cases hs
      · cases hs
    · rename_i hl
      split at hs
      · rename_i b hx
        split at hs
        · rename_i l hh hlo hhi
          split at hs
          · rename_i hc
            cases hs
            obtain ⟨c0, c1, c2⟩ := hc
            simp only [Appl] at ha
            subst ha
            have ex := (h.opSV (rvPV_some hx) : Rep _ _ _).str_inv
            have hbounds : (Instr.sliceBounds false b.size b.size (lo.map a.eval) (hi.map a.eval) none).run E.P w = .ok (l.toNat, hh.toNat, b.size) w :=
              run_bounds c0 c1 c2 (bound_cases h hhi) (bound_cases h hlo)
            refine val_step (v := .val (.str (b.extract l.toNat hh.toNat))) (x := .string (b.extract l.toNat hh.toNat)) h1 hd (run_at (f := Instr.sliceAt t (a.eval x) (lo.map a.eval) (hi.map a.eval) none) ?_ (by cases lo <;> cases hi <;> rfl)) (Rep.str _) (fun m' Pr' a' w' hr => hK m' Pr' a' w' hr)
            rw [ex]
            simp [Instr.sliceAt, run_underlying (lk_str hl), Instr.slice, hbounds]
          · cases hs
        · cases hs
      · cases hs
    · cases hs
  case indexAddr t x i =>
    split at hs
    · rename_i n e hn hl
      obtain ⟨kn, en⟩ := h.rvInt hn
      split at hs
      · rename_i sz' hsz
        split at hs
        · rename_i mm cs hx
          split at hs
          · rename_i hc
            cases hs
            simp only [Appl] at ha
            subst ha
            have hrep : Rep (rd w Pr) (.lst mm cs) (a.eval x) := h.opSV (res_val hx)
            rcases hrep.lst_inv with ⟨ex, rfl, rfl⟩ | ⟨ad, cap, xs, ex, hnc, hcm, hall, hm⟩
            · omega
            · refine val_step (v := .val (.ref (cs.drop (n.toNat * sz')))) (x := .pointer (some (ad.add (n.toNat * sz')))) h1 hd (run_at (f := Instr.indexAt t (a.eval x) (a.eval i)) ?_ rfl) ?_ (fun m' Pr' a' w' hr => hK m' Pr' a' w' hr)
              · rw [ex, en]
                simp only [Instr.indexAt, asIntOf, pure_bind, Sem.run_bind, run_underlying (lk_slice hl), Result.andThen_ok]
                rw [if_pos hc]
                simp [run_sizeOf hsz]
              · have hall2 := (hall.drop (n.toNat * sz')).mono (rd_mono hP)
                refine Rep.ref _ _ _ hall2.1 hall2.2.1 (fun j y hy => ?_) hall2.2.2
                rw [add_add]
                exact rd_mono hP _ _ (hm _ y (by simpa using hy))
          · cases hs
        · rename_i k e' z' mm cs hx
          split at hs
          · rename_i hc
            cases hs
            simp only [Appl] at ha
            subst ha
            obtain ⟨ho, fl, hk⟩ := res_row hx
            have ex : a.eval x = m k := h.opSV ho
            obtain ⟨xs, _, hsh, _⟩ := h.blk k _ hk
            rcases hsh.2 with ⟨h0, h00⟩ | ⟨g, cap, cur, h0, _⟩
            · omega
            · refine val_step (v := .ptr k (n.toNat * sz')) (x := .pointer (some ⟨g, n.toNat * sz', none⟩)) h1 hd (run_at (f := Instr.indexAt t (a.eval x) (a.eval i)) ?_ rfl) ⟨g, by rw [h0]; rfl, rfl⟩ (fun m' Pr' a' w' hr => hK m' Pr' a' w' hr)
              rw [ex, en, h0]
              simp only [Instr.indexAt, asIntOf, pure_bind, Sem.run_bind, run_underlying (lk_slice hl), Result.andThen_ok]
              rw [if_pos hc]
              simp [run_sizeOf hsz, addr_add]
          · cases hs
        · rename_i k o mm b hx
          split at hs
          · rename_i hc
            cases hs
            simp only [Appl] at ha
            subst ha
            obtain ⟨ho, fl, hk⟩ := res_sub hx
            obtain ⟨g, cap, hg, ex, hnc, hcm⟩ := (h.opSV ho : SRep _ _ _ _)
            refine val_step (v := .ptr k (o + n.toNat * sz')) (x := .pointer (some ⟨g, o + n.toNat * sz', none⟩)) h1 hd (run_at (f := Instr.indexAt t (a.eval x) (a.eval i)) ?_ rfl) ⟨g, hg, rfl⟩ (fun m' Pr' a' w' hr => hK m' Pr' a' w' hr)
            rw [ex, en]
            simp only [Instr.indexAt, asIntOf, pure_bind, Sem.run_bind, run_underlying (lk_slice hl), Result.andThen_ok]
            rw [if_pos hc]
            simp [run_sizeOf hsz, addr_add]
          · cases hs
        · cases hs
      · cases hs
    · rename_i n len e hn hl
      obtain ⟨kn, en⟩ := h.rvInt hn
      split at hs
      · rename_i sz' hsz
        split at hs
        · rename_i k o b hx
          split at hs
          · rename_i hc
            cases hs
            simp only [Appl] at ha
            subst ha
            obtain ⟨ho, fl, hk⟩ := res_ptr hx
            obtain ⟨g, hg, ex⟩ := (h.opSV ho : SRep _ _ _ _)
            refine val_step (v := .ptr k (o + n.toNat * sz')) (x := .pointer (some ⟨g, o + n.toNat * sz', none⟩)) h1 hd (run_at (f := Instr.indexAt t (a.eval x) (a.eval i)) ?_ rfl) ⟨g, hg, rfl⟩ (fun m' Pr' a' w' hr => hK m' Pr' a' w' hr)
            rw [ex, en]
            simp only [Instr.indexAt, asIntOf, pure_bind, Sem.run_bind, run_underlying (lk_array hl), Result.andThen_ok, Instr.sureAddr]
            rw [if_pos hc]
            simp [run_sizeOf hsz, addr_add]
          · cases hs
        · rename_i cs hx
          split at hs
          · rename_i hc
            cases hs
            simp only [Appl] at ha
            subst ha
            obtain ⟨ad, xs, ex, hall, hm⟩ := (Rep.ref_inv (h.opSV (res_val hx) : Rep _ _ _))
            refine val_step (v := .val (.ref (cs.drop (n.toNat * sz')))) (x := .pointer (some (ad.add (n.toNat * sz')))) h1 hd (run_at (f := Instr.indexAt t (a.eval x) (a.eval i)) ?_ rfl) ?_ (fun m' Pr' a' w' hr => hK m' Pr' a' w' hr)
            · rw [ex, en]
              simp only [Instr.indexAt, asIntOf, pure_bind, Sem.run_bind, run_underlying (lk_array hl), Result.andThen_ok, Instr.sureAddr]
              rw [if_pos hc]
              simp [run_sizeOf hsz]
            · have hall2 := (hall.drop (n.toNat * sz')).mono (rd_mono hP)
              refine Rep.ref _ _ _ hall2.1 hall2.2.1 (fun j y hy => ?_) hall2.2.2
              rw [add_add]
              exact rd_mono hP _ _ (hm _ y (by simpa using hy))
          · cases hs
        · cases hs
      · cases hs
    · cases hs
  case call c =>
    obtain ⟨callee, args, argTypes⟩ := c
    cases callee with
    | builtin b => exact pbuiltin_sound h rfl rfl hd hs ha hK
    | invoke r mth => simp at hs
    | value f =>
      simp only at hs
      split at hs
      · rename_i g caps hf
        split at hs
        · rename_i hmu
          split at hs
          · rename_i _ g' rs hcl
            cases hs
            have hgg : g' = g := by
              simp only [res, opSV, Option.bind_some, resSV, Option.some.injEq, RV.val.injEq, PV.clo.injEq] at hf
              exact hf.1
            subst hgg
            obtain ⟨ks, cargs, bs, bs', r, hpc, -, hargs, hnd, hkl, hblk, hdk, hd0, rfl⟩ := ha
            obtain ⟨hb1, hb2, hrk, hrj, hpc⟩ := hpc
            have hlen : cargs.length = args.size := by
              have e1 := congrArg List.length hargs
              have e2 := allSome_length hcl
              simp only [List.length_map, Array.length_toList] at e1 e2
              omega
            have hki : ∀ (i : Nat) b, bs[i]? = some b → s.σ (ks.getD i 0) = some (b, false) := fun i b hb => by
              have hlt : i < ks.length := by rw [hkl]; exact (List.getElem?_eq_some_iff.1 hb).1
              refine hblk i b _ hb ?_
              simp [List.getD, hlt]
            have hpc' := hpc w Pr (fun i => m (ks.getD i 0)) (args.map a.eval) h.bnd h.glob
              (fun i b hb => (h.blk _ _ (hki i b hb)).wide fun _ _ => trivial)
              (fun i j b c hb hc hne => h.sep _ _ _ _ (hki i b hb) (hki j c hc) fun e => by
                have h1 : i < ks.length := by rw [hkl]; exact (List.getElem?_eq_some_iff.1 hb).1
                have h2 : j < ks.length := by rw [hkl]; exact (List.getElem?_eq_some_iff.1 hc).1
                simp only [List.getD, List.getElem?_eq_getElem h1, List.getElem?_eq_getElem h2, Option.getD_some] at e
                exact hne (nodup_inj hnd (List.getElem?_eq_getElem h1) (by rw [List.getElem?_eq_getElem h2, e])))
              (by simp [hlen]) (fun j u v hu hv => by
                simp only [Array.getElem?_map, Option.map_eq_some_iff] at hv
                obtain ⟨y, hy, rfl⟩ := hv
                have hy' : args.toList[j]? = some y := by simpa using hy
                obtain ⟨q, hq, hrq⟩ := allSome_get hcl (j := j) (by rw [List.getElem?_map, hy']; rfl)
                have hs' := h.opSV (res_sv hrq)
                have : (rs.map RV.sv)[j]? = some (ren ks u) := by rw [hargs, List.getElem?_map, hu]; rfl
                rw [List.getElem?_map, hq, Option.map_some, Option.some.injEq] at this
                rw [this] at hs'
                exact (SRep.ren (fun i => rfl)).1 hs')
            have hexe : execOp a.eval ⟨dst, .call ⟨.value (.func g'), args, argTypes⟩, type, pos, after, guard⟩ = callFunc g' (args.map a.eval) := by
              simp only [execOp, resolve, Act.eval, Deferred.ofValue, pure_bind, invoke, Array.empty_append, Array.append_empty]
            unfold Oper.wp
            rw [hexe]
            revert hpc'
            cases (callFunc g' (args.map a.eval)).run E.P w with
            | halt x w' => exact fun h => h.elim
            | ok nx w' =>
              cases nx <;> first | exact fun h => h.elim | skip
              rename_i f' vs'
              rintro ⟨rfl, hcalls⟩
              refine hcalls.mono ?_
              rintro e w'' ⟨v, rfl, hpost⟩
              obtain ⟨m', Pr', hrel, hrv⟩ := h.inl (dst := dst) hd hdk hd0 hnd hkl hb1 hb2 hrk hblk hpost
              exact hK _ _ _ _ (hrel.put dst hd hrv)
          · cases hs
        · split at hs
          all_goals first | (cases hs; done) | skip
          rename_i vs fz' hcl
          cases hs
          obtain ⟨r, hpc, rfl⟩ := ha
          obtain ⟨hlen, hreps⟩ := h.closeL h1 hP _ hcl (fun k hk => hk)
          obtain ⟨xs, ef, hxl, hxr⟩ := (Rep.clo_inv (h.opSV (res_val hf) : Rep _ _ _))
          have hpc' := hpc w Pr1 (args.map a.eval ++ xs) h1.bnd h1.glob (by simp [hlen, hxl]) (fun j p v hp hv => by
            rw [List.getElem?_append] at hp
            rw [Array.getElem?_append] at hv
            simp only [Array.size_map] at hv
            have hl2 : vs.length = args.size := by simpa using hlen
            rw [hl2] at hp
            split at hp
            · rename_i hlt
              simp only [hlt, if_true, Array.getElem?_map, Option.map_eq_some_iff] at hv
              obtain ⟨y, hy, rfl⟩ := hv
              exact hreps j p y hp (by simpa using hy)
            · rename_i hlt
              simp only [hlt, if_false] at hv
              exact Rep.mono (rd_mono hP) (hxr _ p v hp hv))
          have hexe : execOp a.eval ⟨dst, .call ⟨.value f, args, argTypes⟩, type, pos, after, guard⟩ = callFunc g (args.map a.eval ++ xs) := by
            simp only [execOp, resolve, ef, Deferred.ofValue, pure_bind, invoke, Array.empty_append]
          unfold Oper.wp
          rw [hexe]
          revert hpc'
          cases (callFunc g (args.map a.eval ++ xs)).run E.P w with
          | halt x w' => exact fun h => h.elim
          | ok nx w' =>
            cases nx <;> first | exact fun h => h.elim | skip
            · rename_i v
              intro hpost
              obtain ⟨Pr2, hrel, hrv⟩ := h1.post hpost
              exact hK _ _ _ _ (hrel.put dst hd (v := .val r) hrv)
            · rename_i f' vs'
              rintro ⟨rfl, hcalls⟩
              refine hcalls.mono ?_
              rintro e w'' ⟨v, rfl, hpost⟩
              obtain ⟨Pr2, hrel, hrv⟩ := h1.post hpost
              exact hK _ _ _ _ (hrel.put dst hd (v := .val r) hrv)
      · cases hs
end
end PG
