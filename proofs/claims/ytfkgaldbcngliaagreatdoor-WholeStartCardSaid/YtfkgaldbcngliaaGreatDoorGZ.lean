import Derived.Test.YtfkgaldbcngliaaGreatDoorG3
import Derived.ProofKit
import Derived.LaidMore
import Derived.OpenShut
import Derived.Stop.Joined
import Derived.SevenTiedAt
import Derived.Lib.LaidTab
import Derived.MakeChecks
import Derived.Test.YtfkgaldbcngliaaGreatDoorG4
import Derived.Test.YtfkgaldbcngliaaGreatDoorRows
section
set_option linter.unusedVariables false
set_option linter.unusedSimpArgs false
namespace PG
open Go Go.RowKit Go.ChangeShapes Go.WideShapes Go.ChangeAt
def old (w : World) : Nat → Nat → Prop := fun g _ => g < w.heap.size
theorem rd_old {w : World} {a : Addr} {x : Value} (h : w.cell? a = some x) : rd w (old w) a = some x := rd_some.2 ⟨World.block_lt_of_cell? _ _ h, h⟩
def Rd (P : Program) (w : World) (t : TypeId) (Q : List PV → Prop) : Prop :=
  ∀ (H : Type) (enc : TypeId × Value → H) (fuel : Nat) (cs : List Value) (x : DataW H × List MemPlace), DataW.trod enc P w 0 (fun _ => true) true fuel t cs = some x → ∃ pvs, All2 (rd w (old w)) pvs cs ∧ Q pvs
section
variable {P : Program} {w : World} {t e : TypeId}
theorem Rd.int {k : IntKind} (ht : P.underlying t = some (.int k)) : Rd P w t fun l => ∃ n, l = [.int k n] ∧ k.min ≤ n ∧ n ≤ k.max := by
  intro H enc fuel cs x h
  obtain ⟨n, rfl, _, hw⟩ := DataW.trod_int ht h
  simp only [Lit.wf, Bool.and_eq_true, decide_eq_true_eq] at hw
  exact ⟨[.int k n], All2.cons (.int k n) rfl All2.nil, n, rfl, hw.1, hw.2⟩
theorem Rd.bool (ht : P.underlying t = some .bool) : Rd P w t fun l => ∃ b, l = [.bool b] := by
  intro H enc fuel cs x h
  obtain ⟨b, rfl, _⟩ := DataW.trod_bool ht h
  exact ⟨[.bool b], All2.cons (.bool b) rfl All2.nil, b, rfl⟩
theorem Rd.str (ht : P.underlying t = some .string) : Rd P w t fun l => ∃ s, l = [.str s] ∧ s.size ≤ maxLen := by
  intro H enc fuel cs x h
  obtain ⟨s, rfl, _, hs⟩ := DataW.trod_string ht h
  exact ⟨[.str s], All2.cons (.str s) rfl All2.nil, s, rfl, hs⟩
theorem Rd.slice {Q : List PV → Prop} {c : Nat} (ht : P.underlying t = some (.slice e)) (hc : P.cellsOf e = c) (he : Rd P w e Q) :
    Rd P w t fun l => ∃ els : List (List PV), l = [.lst els.length els.flatten] ∧ ∀ x ∈ els, Q x ∧ x.length = c := by
  intro H enc fuel cs x h
  rcases DataW.trod_slice ht h with ⟨rfl, _⟩ | ⟨a, len, cap, elems, rest, n, _, rfl, _, _, hl, hm, hlen, hel, _, _⟩
  · exact ⟨[.lst 0 []], All2.cons .nil rfl All2.nil, [], rfl, fun x hx => by cases hx⟩
  · have each : ∀ k, k ≤ len → ∃ (els : List (List PV)) (xs : List Value), els.length = k ∧ xs.length = k * c ∧ All2 (rd w (old w)) els.flatten xs ∧ (∀ (j : Nat) x, xs[j]? = some x → rd w (old w) (a.add j) = some x) ∧ ∀ x ∈ els, Q x ∧ x.length = c := by
      intro k
      induction k with
      | zero => intro _; exact ⟨[], [], rfl, by simp, All2.nil, fun j x hx => by simp at hx, fun x hx => by cases hx⟩
      | succ k ih =>
        intro hk
        obtain ⟨els, xs, h1, h2, h3, h4, h5⟩ := ih (by omega)
        have hi := hel k (by omega)
        rw [List.getElem?_eq_getElem (show k < elems.length by omega), hc] at hi
        obtain ⟨cs, hcs, hy⟩ := Option.bind_eq_some_iff.1 hi
        obtain ⟨pvs, hall, hq⟩ := he H enc n cs _ hy
        obtain ⟨_, hcl, hcell⟩ := World.cells?_some hcs
        refine ⟨els ++ [pvs], xs ++ cs, by simp [h1], by simp [h2, hcl, Nat.succ_mul], by simpa using h3.append hall, fun j x hx => ?_, fun x hx => ?_⟩
        · rw [List.getElem?_append] at hx
          split at hx
          · exact h4 j x hx
          · rename_i hj
            have hj' : j - xs.length < cs.length := (List.getElem?_eq_some_iff.1 hx).1
            have := hcell (j - xs.length) (by omega)
            rw [hx, add_add, ← h2] at this
            rw [show xs.length + (j - xs.length) = j by omega] at this
            exact rd_old this
        · rcases List.mem_append.1 hx with hx | hx
          · exact h5 x hx
          · simp only [List.mem_singleton] at hx
            subst hx
            exact ⟨hq, by have := hall.1; omega⟩
    obtain ⟨els, xs, h1, h2, h3, h4, h5⟩ := each len (Nat.le_refl _)
    exact ⟨[.lst els.length els.flatten], All2.cons (h1 ▸ .lst a els.length cap els.flatten xs (by omega) hm h3.1 h3.2.1 h4 h3.2.2) rfl All2.nil, els, rfl, h5⟩
def Parts : List (List PV → Prop) → List PV → Prop
  | [], l => l = []
  | Q :: Qs, l => ∃ a r, l = a ++ r ∧ Q a ∧ Parts Qs r
def FieldsRd (P : Program) (w : World) : Nat → List Field → List (List PV → Prop) → Prop
  | off, [], [] => True
  | off, f :: fs, Q :: Qs => f.offset = off ∧ Rd P w f.type Q ∧ FieldsRd P w (off + P.cellsOf f.type) fs Qs
  | _, _, _ => False
def widths (P : Program) : Nat → List Field → Nat
  | off, [] => off
  | off, f :: fs => widths P (off + P.cellsOf f.type) fs
theorem fields_parts {H : Type} {enc : TypeId × Value → H} {n : Nat} {cs : List Value} : ∀ (fs : List Field) (Qs : List (List PV → Prop)) (off : Nat), FieldsRd P w off fs Qs → widths P off fs = cs.length →
    (∀ f ∈ fs, ∃ y, DataW.trod enc P w 0 (fun _ => true) true n f.type ((cs.drop f.offset).take (P.cellsOf f.type)) = some y) → ∃ pvs, All2 (rd w (old w)) pvs (cs.drop off) ∧ Parts Qs pvs
  | [], [], off, _, hw, _ => by
    simp only [widths] at hw
    refine ⟨[], ?_, rfl⟩
    rw [List.drop_eq_nil_of_le (by omega)]
    exact All2.nil
  | [], _ :: _, _, h, _, _ => h.elim
  | _ :: _, [], _, h, _, _ => h.elim
  | f :: fs, Q :: Qs, off, h, hw, hf => by
    obtain ⟨rfl, hr, hrest⟩ := h
    obtain ⟨y, hy⟩ := hf f (by simp)
    obtain ⟨pvs, hall, hq⟩ := hr H enc n _ y hy
    obtain ⟨qvs, hall2, hp⟩ := fields_parts fs Qs _ hrest (by simpa [widths] using hw) (fun f' hf' => hf f' (by simp [hf']))
    refine ⟨pvs ++ qvs, ?_, pvs, qvs, rfl, hq, hp⟩
    have := hall.append hall2
    rw [← List.drop_drop, List.take_append_drop] at this
    exact this
theorem Rd.struct {fs : Array Field} {Qs : List (List PV → Prop)} (ht : P.underlying t = some (.struct fs)) (hf : FieldsRd P w 0 fs.toList Qs) (hw : widths P 0 fs.toList = P.cellsOf t) : Rd P w t (Parts Qs) := by
  intro H enc fuel cs x h
  obtain ⟨xs, n, _, _, hlen, hxl, heach⟩ := DataW.trod_struct ht h
  have := fields_parts (H := H) (enc := enc) (n := n) (cs := cs) fs.toList Qs 0 hf (by rw [hw, hlen]) (fun f hf' => by
    obtain ⟨i, hi⟩ := List.getElem?_of_mem hf'
    have hi' : fs[i]? = some f := by simpa using hi
    have hlt : i < xs.length := by rw [hxl]; exact (Array.getElem?_eq_some_iff.1 hi').1
    exact ⟨_, (heach i f hi').trans (List.getElem?_eq_getElem hlt)⟩)
  rwa [List.drop_zero] at this
end
def ArgRd (P : Program) (w : World) (t : TypeId) (Q : PV → Prop) : Prop :=
  ∀ (H : Type) (enc : TypeId × Value → H) (base : Nat) (v : Value) (d : DataW H) (ps : List MemPlace), Value.okWide P w .any base t v → DataW.Trod enc P w 0 (fun _ => true) true t v d ps → ∃ p, Rep (rd w (old w)) p v ∧ Q p
theorem ArgRd.one {P : Program} {w : World} {t : TypeId} {Q : List PV → Prop} (hr : Rd P w t Q) (h1 : ∀ base v, Value.okWide P w .any base t v → v.cells = #[v]) (hq : ∀ l, Q l → ∃ p, l = [p]) : ArgRd P w t fun p => Q [p] := by
  intro H enc base v d ps hok hd
  obtain ⟨fuel, hf⟩ := hd
  obtain ⟨pvs, hall, hQ⟩ := hr H enc fuel _ _ hf
  rw [h1 base v hok] at hall
  obtain ⟨p, rfl⟩ := hq pvs hQ
  exact ⟨p, hall.2.2 0 p v rfl rfl, hQ⟩
section
variable {P : Program} {w : World} {t e : TypeId}
theorem ArgRd.int {k : IntKind} (ht : P.underlying t = some (.int k)) : ArgRd P w t fun p => ∃ n, p = .int k n ∧ k.min ≤ n ∧ n ≤ k.max := by
  intro H enc base v d ps hok hd
  obtain ⟨p, hp, n, hn, h⟩ := ArgRd.one (Rd.int (w := w) ht) (fun base v hok => by obtain ⟨n, rfl⟩ := okWide_int ht hok; rfl) (fun l ⟨n, hn, _⟩ => ⟨_, hn⟩) H enc base v d ps hok hd
  exact ⟨p, hp, n, by simpa using hn, h⟩
theorem ArgRd.bool (ht : P.underlying t = some .bool) : ArgRd P w t fun p => ∃ b, p = .bool b := by
  intro H enc base v d ps hok hd
  obtain ⟨p, hp, b, hb⟩ := ArgRd.one (Rd.bool (w := w) ht) (fun base v hok => by obtain ⟨n, rfl⟩ := okWide_bool ht hok; rfl) (fun l ⟨n, hn⟩ => ⟨_, hn⟩) H enc base v d ps hok hd
  exact ⟨p, hp, b, by simpa using hb⟩
theorem ArgRd.str (ht : P.underlying t = some .string) : ArgRd P w t fun p => ∃ s, p = .str s ∧ s.size ≤ maxLen := by
  intro H enc base v d ps hok hd
  obtain ⟨p, hp, b, hb, hs⟩ := ArgRd.one (Rd.str (w := w) ht) (fun base v hok => by obtain ⟨n, rfl⟩ := okWide_string ht hok; rfl) (fun l ⟨n, hn, _⟩ => ⟨_, hn⟩) H enc base v d ps hok hd
  exact ⟨p, hp, b, by simpa using hb, hs⟩
theorem ArgRd.slice {Q : List PV → Prop} {c : Nat} (ht : P.underlying t = some (.slice e)) (hc : P.cellsOf e = c) (he : Rd P w e Q) : ArgRd P w t fun p => ∃ els : List (List PV), p = .lst els.length els.flatten ∧ ∀ x ∈ els, Q x ∧ x.length = c := by
  intro H enc base v d ps hok hd
  obtain ⟨p, hp, els, hb, hs⟩ := ArgRd.one (Rd.slice (w := w) ht hc he) (fun base v hok => by obtain ⟨a, l, c, rfl⟩ := okWide_slice ht hok; rfl) (fun l ⟨n, hn, _⟩ => ⟨_, hn⟩) H enc base v d ps hok hd
  exact ⟨p, hp, els, by simpa using hb, hs⟩
theorem ArgRd.struct {fs : Array Field} {Qs : List (List PV → Prop)} (ht : P.underlying t = some (.struct fs)) (hf : FieldsRd P w 0 fs.toList Qs) (hw : widths P 0 fs.toList = P.cellsOf t) : ArgRd P w t fun p => ∃ l, p = .agg l ∧ Parts Qs l := by
  intro H enc base v d ps hok hd
  obtain ⟨cs, rfl, _⟩ := okWide_struct ht hok
  obtain ⟨fuel, hf'⟩ := hd
  obtain ⟨pvs, hall, hQ⟩ := Rd.struct ht hf hw H enc fuel _ _ hf'
  exact ⟨.agg pvs, All2.agg (by simpa [Value.cells] using hall), pvs, rfl, hQ⟩
end
def ArgsRd (P : Program) (w : World) : List TypeId → List (PV → Prop) → Prop
  | [], [] => True
  | t :: ts, Q :: Qs => ArgRd P w t Q ∧ ArgsRd P w ts Qs
  | _, _ => False
def Fits : List (PV → Prop) → List PV → Prop
  | [], [] => True
  | Q :: Qs, p :: ps => Q p ∧ Fits Qs ps
  | _, _ => False
theorem args_read {P : Program} {w : World} {H : Type} {enc : TypeId × Value → H} {base : Nat} : ∀ (ts : List TypeId) (Qs : List (PV → Prop)) (vs : List Value) (ds : List (DataW H)) (ps : List MemPlace), ArgsRd P w ts Qs →
    (∀ (j : Nat) t v, ts[j]? = some t → vs[j]? = some v → Value.okWide P w .any base t v) → DataW.TrodAll enc P w 0 (fun _ => true) true ts vs ds ps →
    ∃ pvs, pvs.length = vs.length ∧ Fits Qs pvs ∧ ∀ (j : Nat) p v, pvs[j]? = some p → vs[j]? = some v → Rep (rd w (old w)) p v
  | [], [], vs, ds, ps, _, _, h => by
    obtain ⟨rfl, rfl, rfl⟩ := trodAll_nil h
    exact ⟨[], rfl, trivial, fun j p v hp _ => by simp at hp⟩
  | [], _ :: _, _, _, _, h, _, _ => h.elim
  | _ :: _, [], _, _, _, h, _, _ => h.elim
  | t :: ts, Q :: Qs, vs, ds, ps, hr, hok, h => by
    obtain ⟨v, vs1, d, ds1, a, b, rfl, rfl, rfl, h1, h2⟩ := trodAll_cons h
    obtain ⟨p, hp, hq⟩ := hr.1 H enc base v d a (hok 0 t v rfl rfl) h1
    obtain ⟨pvs, hl, hfits, hreps⟩ := args_read ts Qs vs1 ds1 b hr.2 (fun j t' v' ht hv => hok (j + 1) t' v' (by simpa using ht) (by simpa using hv)) h2
    refine ⟨p :: pvs, by simp [hl], ⟨hq, hfits⟩, fun j q x hq' hx => ?_⟩
    cases j with
    | zero => cases hq'; cases hx; exact hp
    | succ j => exact hreps j q x (by simpa using hq') (by simpa using hx)
theorem Below.trodAll {H : Type} {enc : TypeId × Value → H} {P : Program} (hl : laidOutB P = true) {W W' : World} (hb : Below W.heap.size W W') : ∀ {ts : List TypeId} {vs : List Value} {ds : List (DataW H)} {ps : List MemPlace},
    (∀ t ∈ ts, P.readableRec t = true ∧ t < P.types.size) → DataW.TrodAll enc P W 0 (fun _ => true) true ts vs ds ps → (∀ x ∈ ps, x.block < W.heap.size) → DataW.TrodAll enc P W' 0 (fun b => decide (b < W.heap.size)) true ts vs ds ps
  | [], vs, ds, ps, _, h, _ => by
    obtain ⟨rfl, rfl, rfl⟩ := trodAll_nil h
    exact rfl
  | t :: ts, vs, ds, ps, hr, h, hlt => by
    obtain ⟨v, vs1, d, ds1, a, b, rfl, rfl, rfl, h1, h2⟩ := trodAll_cons h
    exact ⟨a, b, Below.trod hl (hr t (by simp)).1 (hr t (by simp)).2 h1 hb (fun x hx => hlt x (by simp [hx])), Below.trodAll hl hb (fun u hu => hr u (by simp [hu])) h2 (fun x hx => hlt x (by simp [hx])), rfl⟩
theorem law_post {H : Type} {enc : TypeId × Value → H} {P : Program} {f : Func} {s : ChangeSpec} {apart handsOn : Bool} {tb : TypeId} (hl : laidOutB P = true) (hr : ∀ t ∈ f.params.toList, P.readableRec t = true ∧ t < P.types.size) (hres : f.resultTypes = #[tb]) (htb : P.underlying tb = some .bool)
    (hs : s.vars = []) {W W' : World} {args : Array Value} {ds gs : List (DataW H)} {before : List MemPlace} (hfn : s.fn H (ds ++ gs) = { results := [.lit (.bool true)], args := ds }) (hW : DataW.Whole enc P f.params.toList s.vars apart W args.toList ds gs before)
    (hb : Below W.heap.size W W') : s.post enc P f apart true handsOn false W args (.bool true) W' := by
  have hlt : ∀ p ∈ before, p.block < W.heap.size := fun p hp => by simpa using hW.lt p hp
  have hW' := hW
  obtain ⟨p, q, h1, h2, hpq, h4, h5⟩ := hW'
  rw [hs] at h2
  obtain ⟨rfl, rfl⟩ := trodVars_none h2
  rw [List.append_nil] at hpq
  subst hpq
  refine ⟨ds, [], before, [], before, [], hW, ?_, ?_, ?_, hb.frame _, fun h => by cases h⟩
  · rw [hfn, hres]
    exact ⟨[], [], ⟨1, by simp [DataW.trod, htb, Value.cells]⟩, by simp [DataW.TrodAll], rfl⟩
  · rw [hfn]
    exact Below.trodAll hl hb hr h1 hlt
  · rw [hfn, hs]
    exact rfl
theorem Fits.length : ∀ {Qs : List (PV → Prop)} {ps : List PV}, Fits Qs ps → ps.length = Qs.length
  | [], [], _ => rfl
  | [], _ :: _, h => h.elim
  | _ :: _, [], h => h.elim
  | _ :: _, _ :: _, h => by simp [Fits.length h.2]
theorem trodAll_length {H : Type} {enc : TypeId × Value → H} {P : Program} {w : World} {b : Nat} {sp : Nat → Bool} {hd : Bool} : ∀ {ts : List TypeId} {vs : List Value} {ds : List (DataW H)} {ps : List MemPlace}, DataW.TrodAll enc P w b sp hd ts vs ds ps → vs.length = ts.length ∧ ds.length = ts.length
  | [], vs, ds, ps, h => by obtain ⟨rfl, rfl, rfl⟩ := trodAll_nil h; exact ⟨rfl, rfl⟩
  | t :: ts, vs, ds, ps, h => by
    obtain ⟨v, vs1, d, ds1, a, b, rfl, rfl, rfl, h1, h2⟩ := trodAll_cons h
    have := trodAll_length h2
    exact ⟨by simp [this.1], by simp [this.2]⟩
theorem law_contract {E : PE} {f : FuncId} {fn : Func} {s : ChangeSpec} {apart handsOn : Bool} {Qs : List (PV → Prop)} {tb : TypeId} (hl : laidOutB E.P = true) (hr : (fn.params.toList.all fun t => E.P.readableRec t && decide (t < E.P.types.size)) = true) (hres : fn.resultTypes = #[tb]) (htb : E.P.underlying tb = some .bool)
    (hs : s.vars = []) (hfn : ∀ (H : Type) (ds : List (DataW H)), ds.length = fn.params.toList.length → s.fn H ds = { results := [.lit (.bool true)], args := ds }) (hf : E.P.funcs[f]? = some fn) (hname : (fn.name == "runtime.NumGoroutine") = false) (hb : fn.body.isSome = true)
    (hA : ∀ w, ArgsRd E.P w fn.params.toList Qs) (hpc : ∀ pvs, Fits Qs pvs → PC E f pvs (.bool true))
    {H : Type} {enc : TypeId × Value → H} {W : World} {base : Nat} {args : Array Value} {ds gs : List (DataW H)} {before : List MemPlace} (hval : ∀ (j : Nat) t v, fn.params[j]? = some t → args[j]? = some v → Value.okWide E.P W .any base t v)
    (hW : DataW.Whole enc E.P fn.params.toList s.vars apart W args.toList ds gs before) (hG : ∀ g cs, E.G g = some cs → GRep (rd W (old W)) (.ref cs) (.pointer (some ⟨g, 0, none⟩)) (Whole W g cs.length)) :
    Calls E.P f args W fun e W' => ∃ v, e = .returned v ∧ s.post enc E.P fn apart true handsOn false W args v W' := by
  have hW' := hW
  obtain ⟨p, q, h1, h2, _, _, _⟩ := hW'
  rw [hs] at h2
  obtain ⟨rfl, rfl⟩ := trodVars_none h2
  obtain ⟨pvs, hlen, hfits, hreps⟩ := args_read fn.params.toList Qs args.toList ds p (hA W) (fun j t v ht hv => hval j t v (by simpa using ht) (by simpa using hv)) h1
  have hcall : (callFunc f args).run E.P W = .ok (.enter f args) W := by
    have h1 : fn.name ≠ "runtime.NumGoroutine" := by simpa using hname
    obtain ⟨c, hc⟩ := Option.isSome_iff_exists.1 hb
    simp [callFunc, hf, h1, hc]
  have := hpc pvs hfits W (old W) args (fun g o h => h) hG (by simpa using hlen.symm) (fun j p v hp hv => hreps j p v hp (by simpa using hv))
  rw [hcall] at this
  refine this.2.mono ?_
  rintro e W' ⟨v, rfl, hrep, hbel⟩
  refine ⟨v, rfl, ?_⟩
  rw [hrep.bool_inv]
  have hr' : ∀ t ∈ fn.params.toList, E.P.readableRec t = true ∧ t < E.P.types.size := fun t ht => by
    have := List.all_eq_true.1 hr t ht
    simpa using this
  exact law_post hl hr' hres htb hs (by rw [List.append_nil]; exact hfn H ds (trodAll_length h1).2) hW hbel
theorem laid_item {P : Program} {W : World} : ∀ {laid : List (String × DataW Unit)} {x : String × DataW Unit}, x ∈ laid → ∀ ps, DataW.LaidVars P W laid ps →
    ∃ g t cs fuel p, P.globalNamed x.1 = some g ∧ (P.globals[g]?).map (·.type) = some t ∧ W.var? P x.1 = some cs ∧ DataW.trod (fun _ => ()) P W 0 (fun _ => true) false fuel t cs.toList = some (x.2, p)
  | [], x, hx, ps, h => by cases hx
  | (n, d) :: r, x, hx, ps, h => by
    obtain ⟨g, t, cs, fuel, p, q, h1, h2, h3, h4, h5, _⟩ := h
    rcases List.mem_cons.1 hx with rfl | hx
    · exact ⟨g, t, cs, fuel, p, h1, h2, h3, h4⟩
    · exact laid_item hx q h5
theorem glob_tab {P : Program} {W : World} {name : String} {k : IntKind} {zs : List Int} {laid : List (String × DataW Unit)} {g : Nat} {t e : TypeId} {n : Nat} (hmem : (name, Lib.tabData k zs) ∈ laid) (h : laidMet P laid W)
    (hg : P.globalNamed name = some g) (hty : (P.globals[g]?).map (·.type) = some t) (ht : P.underlying t = some (.array n e)) (he : P.underlying e = some (.int k)) (hce : P.cellsOf e = 1) (hct : P.cellsOf t = n) (hz : zs ≠ []) :
    GRep (rd W (old W)) (.ref (zs.map (PV.int k))) (.pointer (some ⟨g, 0, none⟩)) (Whole W g (zs.map (PV.int k)).length) := by
  obtain ⟨ps, hl, _⟩ := h
  obtain ⟨g', t', cs, fuel, p, h1, h2, h3, h4⟩ := laid_item hmem ps hl
  obtain rfl := Option.some.inj (hg.symm.trans h1)
  obtain rfl := Option.some.inj (hty.symm.trans h2)
  have hcs := Lib.cells_of_tab ht he hce hct h4
  simp only at h1 h3
  have hb : ∃ u fr, W.heap[g]? = some (.cells cs u fr) := by
    unfold World.var? at h3
    rw [h1] at h3
    simp only [Option.bind_some] at h3
    split at h3
    · rename_i cs' u fr hh
      cases h3
      exact ⟨u, fr, hh⟩
    · cases h3
  obtain ⟨u, fr, hb⟩ := hb
  have hlen : cs.size = zs.length := by rw [← Array.length_toList, hcs, List.length_map]
  refine ⟨.ref _ _ (zs.map (Value.int k)) (by simp) (fun j x hx => ?_) (fun j x hx => ?_) (fun j c x hc hx => ?_), ?_, cs, u, fr, hb, by rw [hlen, List.length_map]⟩
  · rw [List.getElem?_map, Option.map_eq_some_iff] at hx
    obtain ⟨z, _, rfl⟩ := hx
    rfl
  · rw [addr_add, Nat.zero_add]
    refine rd_old ?_
    simp only [World.cell?, hb]
    rw [← hcs] at hx
    simpa using hx
  · rw [List.getElem?_map, Option.map_eq_some_iff] at hx hc
    obtain ⟨z, hz1, rfl⟩ := hx
    obtain ⟨z', hz2, rfl⟩ := hc
    rw [hz1] at hz2; cases hz2
    exact .int _ _
  · rw [List.length_map]
    exact fun h0 => hz (List.eq_nil_of_length_eq_zero h0)
end PG
end
section
open Go PG Go.Proofs Go.RowKit
set_option maxRecDepth 100000
set_option linter.unusedSimpArgs false
set_option linter.unusedVariables false
namespace Go.Proofs.YtfkgaldbcngliaaGreatDoor
theorem fits_cons {Q : PV → Prop} {Qs : List (PV → Prop)} {pvs : List PV} (h : Fits (Q :: Qs) pvs) : ∃ p ps, pvs = p :: ps ∧ Q p ∧ Fits Qs ps := by
  cases pvs with
  | nil => exact h.elim
  | cons p ps => exact ⟨p, ps, rfl, h.1, h.2⟩
theorem fits_nil {pvs : List PV} (h : Fits [] pvs) : pvs = [] := by
  cases pvs with
  | nil => rfl
  | cons p ps => exact h.elim
theorem fitsO1 {Q1 : PV → Prop} {pvs : List PV} (h : Fits [Q1] pvs) : ∃ p, pvs = [p] ∧ Q1 p := by
  obtain ⟨p, ps, rfl, h1, h⟩ := fits_cons h
  rw [fits_nil h]; exact ⟨p, rfl, h1⟩
theorem fits2 {Q1 Q2 : PV → Prop} {pvs : List PV} (h : Fits [Q1, Q2] pvs) : ∃ p q, pvs = [p, q] ∧ Q1 p ∧ Q2 q := by
  obtain ⟨p, ps, rfl, h1, h⟩ := fits_cons h
  obtain ⟨q, rfl, h2⟩ := fitsO1 h; exact ⟨p, q, rfl, h1, h2⟩
theorem fits3 {Q1 Q2 Q3 : PV → Prop} {pvs : List PV} (h : Fits [Q1, Q2, Q3] pvs) : ∃ p q r, pvs = [p, q, r] ∧ Q1 p ∧ Q2 q ∧ Q3 r := by
  obtain ⟨p, ps, rfl, h1, h⟩ := fits_cons h
  obtain ⟨q, r, rfl, h2, h3⟩ := fits2 h; exact ⟨p, q, r, rfl, h1, h2, h3⟩
def qInt (p : PV) : Prop := ∃ n : Int, p = .int .i64 n ∧ -9223372036854775808 ≤ n ∧ n < 9223372036854775808
def qU64 (p : PV) : Prop := ∃ n : Nat, p = u n ∧ n < W
def qU16 (p : PV) : Prop := ∃ n : Nat, p = .int .u16 n ∧ n < 65536
def qU8 (p : PV) : Prop := ∃ n : Nat, p = .int .u8 n ∧ n < 256
def qBool (p : PV) : Prop := ∃ b, p = .bool b
def qU64s (p : PV) : Prop := ∃ l : List Nat, p = NL l ∧ Ok W l
theorem arg_imp {P : Program} {w : World} {t : TypeId} {Q Q' : PV → Prop} (h : ArgRd P w t Q) (hq : ∀ p, Q p → Q' p) : ArgRd P w t Q' :=
  fun H enc base v d ps hok hd => let ⟨p, hp, hQ⟩ := h H enc base v d ps hok hd; ⟨p, hp, hq p hQ⟩
theorem a_u16 {t : TypeId} (w : World) (ht : E.P.underlying t = some (.int .u16)) : ArgRd E.P w t qU16 := arg_imp (ArgRd.int ht) fun p ⟨n, h, h1, h2⟩ => by
  have e1 : IntKind.u16.min = 0 := by decide
  have e2 : IntKind.u16.max = 65535 := by decide
  rw [e1] at h1
  rw [e2] at h2
  obtain ⟨m, rfl⟩ := Int.eq_ofNat_of_zero_le h1
  exact ⟨m, h, by omega⟩
theorem globals_met {W : World} (h : laidMetH Tryz.prog [("math/bits.deBruijn64tab", Rows.laid_math_bits_deBruijn64tab)] W) : ∀ g cs, E.G g = some cs → GRep (rd W (old W)) (.ref cs) (.pointer (some ⟨g, 0, none⟩)) (Whole W g cs.length) := by
  rw [MakeChecks.laidMetH_plain _ _ _ (by kernel_rfl)] at h
  intro g cs hg
  have hg' : (if g = 0 then some deBruijn else none) = some cs := hg
  split at hg'
  · rename_i e
    subst e
    cases hg'
    have hd : (Rows.laid_math_bits_deBruijn64tab : DataW Unit) = Lib.tabData .u8 (Lib.deBruijn64tab.map fun n : Nat => (n : Int)) := by
      unfold Rows.laid_math_bits_deBruijn64tab Lib.tabData
      kernel_rfl
    rw [hd] at h
    rw [show deBruijn = (Lib.deBruijn64tab.map fun n : Nat => (n : Int)).map (PV.int .u8) by simp [deBruijn, Function.comp_def]]
    exact glob_tab (t := 287) (n := 64) (e := 5) (List.mem_cons_self) h (by kernel_rfl) (by kernel_rfl) (by kernel_rfl) (by kernel_rfl) (by kernel_rfl) (by kernel_rfl) (by decide)
  cases hg'
end Go.Proofs.YtfkgaldbcngliaaGreatDoor
end
