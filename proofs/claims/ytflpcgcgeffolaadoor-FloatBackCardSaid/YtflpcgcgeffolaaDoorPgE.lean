/- THE PURE READING OF A GO FUNCTION, 5: cells that are loaded, filled, cut: plain facts on how the model's operations stand to the pure ones. -/
import Derived.Test.YtflpcgcgeffolaaDoorPgD
set_option linter.unusedVariables false
set_option linter.unusedSimpArgs false
namespace PG
open Go Go.RowKit

section
variable {g : Addr → Option Value}

theorem cst_one {v : Value} {p : PV} (h : cst v = some p) : v.oneCell' = true := by
  unfold cst at h
  split at h <;> first | (cases h; done) | rfl

theorem zcell_rep {v : Value} {p : PV} (h : zcell v = some p) : Rep g p v ∧ v.oneCell' = true := by
  unfold zcell at h
  split at h
  · cases h; exact ⟨.nil, rfl⟩
  · exact ⟨cst_rep h, cst_one h⟩

theorem All2.nil : All2 g [] [] := ⟨rfl, fun j x hx => by simp at hx, fun j c x hc _ => by simp at hc⟩
theorem All2.cons {c : PV} {x : Value} {cs : List PV} {xs : List Value} (hr : Rep g c x) (h1 : x.oneCell' = true) (h : All2 g cs xs) : All2 g (c :: cs) (x :: xs) := by
  refine ⟨by simp [h.1], fun j y hy => ?_, fun j d y hd hy => ?_⟩
  · cases j with
    | zero => cases hy; exact h1
    | succ j => exact h.2.1 j y (by simpa using hy)
  · cases j with
    | zero => cases hd; cases hy; exact hr
    | succ j => exact h.2.2 j d y (by simpa using hd) (by simpa using hy)

theorem zlist_rep : ∀ (l : List Value) {cs : List PV}, l.mapM zcell = some cs → All2 g cs l
  | [], cs, h => by simp at h; subst h; exact All2.nil
  | v :: l, cs, h => by
    simp only [List.mapM_cons, bind, Option.bind_eq_some_iff, pure, Option.some.injEq] at h
    obtain ⟨c, hc, ds, hd, rfl⟩ := h
    obtain ⟨h1, h2⟩ := zcell_rep (g := g) hc
    exact All2.cons h1 h2 (zlist_rep l hd)

theorem zr_spec {P : Program} {t : TypeId} {cs : List PV} (h : zr P t = some cs) : ∃ i z, P.info? t = some i ∧ i.zero = some z ∧ All2 g cs z.cells.toList := by
  unfold zr at h
  simp only [Option.bind_eq_some_iff] at h
  obtain ⟨z, ⟨i, hi, hz⟩, hc⟩ := h
  exact ⟨i, z, hi, hz, zlist_rep _ hc⟩

theorem sz_spec {P : Program} {t : TypeId} {n : Nat} (h : sz P t = some n) : ∃ i, P.info? t = some i ∧ i.size = n := by
  unfold sz at h
  simp only [Option.map_eq_some_iff] at h
  exact h

theorem run_sizeOf {P : Program} {t : TypeId} {n : Nat} (h : sz P t = some n) (w : World) : (Go.sizeOf t).run P w = .ok n w := by
  obtain ⟨i, hi, rfl⟩ := sz_spec h
  simp [Go.sizeOf, typeInfo, hi]

theorem Rep.cells {p : PV} {x : Value} (h : Rep g p x) {vs : List PV} (hv : p.cells = some vs) : All2 g vs x.cells.toList := by
  cases h with
  | agg cs xs hl h1 hr => cases hv; exact ⟨by simpa [Value.cells] using hl, fun j y hy => h1 j y (by simpa [Value.cells] using hy), fun j c y hc hy => hr j c y hc (by simpa [Value.cells] using hy)⟩
  | tuple => simp [PV.cells] at hv
  | int k n => cases hv; exact All2.cons (.int k n) rfl All2.nil
  | bool b => cases hv; exact All2.cons (.bool b) rfl All2.nil
  | str s => cases hv; exact All2.cons (.str s) rfl All2.nil
  | nil => cases hv; exact All2.cons .nil rfl All2.nil
  | lst a n cap cs xs hn hc hl h1 hm hr => cases hv; exact All2.cons (.lst a n cap cs xs hn hc hl h1 hm hr) rfl All2.nil
  | nn a n cap cs hh => cases hv; exact All2.cons (.nn a n cap cs hh) rfl All2.nil
  | ref a cs xs hl h1 hm hr => cases hv; exact All2.cons (.ref a cs xs hl h1 hm hr) rfl All2.nil
  | clo f cs xs hl hr => cases hv; exact All2.cons (.clo f cs xs hl hr) rfl All2.nil

theorem fold_all2 : ∀ (ys : List Value) (vs : List PV) (cs : List PV) (xs : Array Value) (off k : Nat), All2 g cs xs.toList → All2 g vs ys →
    All2 g (setCells cs (off + k) vs) ((ys.zipIdx k).foldl (fun cs (c, j) => cs.setIfInBounds (off + j) c) xs).toList
  | [], vs, cs, xs, off, k, h, hv => by
    have : vs = [] := List.eq_nil_of_length_eq_zero (by simpa using hv.1.symm)
    subst this
    exact h
  | y :: ys, vs, cs, xs, off, k, h, hv => by
    cases vs with
    | nil => have := hv.1; simp at this
    | cons v vs =>
      simp only [List.zipIdx_cons, List.foldl_cons, setCells]
      have h1 := hv.2.2 0 v y rfl rfl
      have h2 := hv.2.1 0 y rfl
      have := fold_all2 ys vs (cs.set (off + k) v) (xs.setIfInBounds (off + k) y) off (k + 1) (by rw [Array.toList_setIfInBounds]; exact h.set _ h1 h2)
        ⟨by simpa using hv.1, fun j z hz => hv.2.1 (j + 1) z (by simpa using hz), fun j d z hd hz => hv.2.2 (j + 1) d z (by simpa using hd) (by simpa using hz)⟩
      rwa [← Nat.add_assoc] at this

theorem fillPV_length (place : Nat → Option (Nat × Nat)) : ∀ (l : List (Nat × PV)) (cs cs' : List PV), fillPV place cs l = some cs' → cs'.length = cs.length
  | [], cs, cs', h => by simp only [fillPV, Option.some.injEq] at h; rw [h]
  | (i, v) :: l, cs, cs', h => by
    simp only [fillPV] at h
    split at h
    · split at h
      · cases h
      · rw [fillPV_length place l _ _ h, length_setCells]
    · cases h

theorem fill_sound (place : Nat → Option (Nat × Nat)) : ∀ (is : List Nat) (vs : List PV) (xv : List Value) (cs cs' : List PV) (xs : Array Value), All2 g cs xs.toList →
    vs.length = is.length → xv.length = is.length → (∀ (j : Nat) p x, vs[j]? = some p → xv[j]? = some x → Rep g p x) → fillPV place cs (is.zip vs) = some cs' →
    ∃ xs', Instr.fill place xs (is.zip xv) = some xs' ∧ All2 g cs' xs'.toList
  | [], vs, xv, cs, cs', xs, h, _, _, _, hf => by
    simp only [List.zip_nil_left, fillPV, Option.some.injEq] at hf
    subst hf
    exact ⟨xs, by simp [Instr.fill], h⟩
  | i :: is, [], xv, cs, cs', xs, h, hl, _, _, hf => by simp at hl
  | i :: is, v :: vs, [], cs, cs', xs, h, _, hl, _, hf => by simp at hl
  | i :: is, v :: vs, x :: xv, cs, cs', xs, h, h1, h2, hr, hf => by
    simp only [List.zip_cons_cons, fillPV] at hf
    split at hf
    · rename_i off n us hp hc
      split at hf
      · cases hf
      · rename_i hcond
        have hx := (hr 0 v x rfl rfl).cells hc
        have hlen : x.cells.size = us.length := by simpa using hx.1
        have hlx : xs.size = cs.length := by simpa using h.1
        have hcond' : ¬ (us.length ≠ n ∨ off + us.length > cs.length) := hcond
        have e1 : us.length = n := Decidable.byContradiction fun e => hcond' (.inl e)
        have e2 : ¬ off + us.length > cs.length := fun e => hcond' (.inr e)
        have hfold := fold_all2 x.cells.toList us cs xs off 0 h hx
        rw [Nat.add_zero] at hfold
        obtain ⟨xs', hr', ha'⟩ := fill_sound place is vs xv _ cs' _ hfold (by simpa using h1) (by simpa using h2) (fun j p y hp' hy => hr (j + 1) p y (by simpa using hp') (by simpa using hy)) hf
        refine ⟨xs', ?_, ha'⟩
        simp only [List.zip_cons_cons, Instr.fill, hp]
        rw [if_neg (by simp only [hlen, hlx, e1]; simp; omega)]
        rw [← hr']
        congr 1
        rw [← Array.foldl_toList]
        simp
    · cases hf

/-- Reading one variable's part out of cells that lie one behind the other. -/
theorem load_sound {P : Program} {t : TypeId} {cs : List PV} {off : Nat} {p : PV} {xs : List Value} (hp : partPV P t cs off = some p) (h : All2 g cs xs) {w : World} {ad : Addr}
    (hc : ∀ (j : Nat) x, xs[j]? = some x → w.cell? (ad.add j) = some x) : ∃ z, (loadVar t (ad.add off)).run P w = .ok z w ∧ Rep g p z := by
  have agg : ∀ n, sz P t = some n → (∃ d, P.underlying t = some d ∧ isAggD d = true) → off + n ≤ cs.length → p = .agg ((cs.drop off).take n) →
      ∃ z, (loadVar t (ad.add off)).run P w = .ok z w ∧ Rep g p z := by
    intro n hn ⟨d, hd, hda⟩ hle hpe
    have hall := (h.drop off).take n
    have hln : ((xs.drop off).take n).length = n := by have := h.1; simp; omega
    have hrun := run_loadCells_list (P := P) w (ad.add off) ((xs.drop off).take n) (fun j v hv => by
      rw [List.getElem?_take] at hv
      split at hv
      · rw [add_add]; exact hc _ v (by simpa using hv)
      · cases hv)
    rw [hln] at hrun
    refine ⟨.agg ((xs.drop off).take n).toArray, by simp [loadVar, run_isAgg hd, hda, run_sizeOf hn, hrun], ?_⟩
    subst hpe
    exact All2.agg (by simpa using hall)
  unfold partPV at hp
  split at hp
  · rename_i hl
    obtain ⟨Fs, hu, _⟩ := lk_struct hl
    split at hp
    · rename_i n hn
      split at hp
      · rename_i hle
        cases hp
        exact agg n hn ⟨_, hu, rfl⟩ hle rfl
      · cases hp
    · cases hp
  · rename_i hl
    have hu := lk_array hl
    split at hp
    · rename_i n hn
      split at hp
      · rename_i hle
        cases hp
        exact agg n hn ⟨_, hu, rfl⟩ hle rfl
      · cases hp
    · cases hp
  · cases hp
  · rename_i h1 h2 h3
    obtain ⟨x, hx, hr, _⟩ := h.at_ hp
    have hu : ∃ d, P.underlying t = some d ∧ isAggD d = false := by
      cases hu : P.underlying t with
      | none => exact absurd (by simp [lk, lkOf, hu]) h3
      | some d =>
        refine ⟨d, rfl, ?_⟩
        cases d <;> first | rfl | skip
        · rename_i n e; exact (h2 n e (by simp only [lk, lkOf, hu])).elim
        · rename_i fs; exact (h1 (fs.toList.map fun f => (f.offset, f.type)) (by simp only [lk, lkOf, hu])).elim
    obtain ⟨d, hd, hda⟩ := hu
    exact ⟨x, by simp [loadVar, run_isAgg hd, hda, hc off x hx], hr⟩

theorem placesL_run {P : Program} (w : World) : ∀ (Fs : List Field) {pl : List (Nat × Nat)}, placesL P (Fs.map fun f => (f.offset, f.type)) = some pl →
    (Fs.mapM fun f => do pure (f.offset, ← Go.sizeOf f.type) : Sem (List (Nat × Nat))).run P w = .ok pl w
  | [], pl, h => by simp only [List.map_nil, placesL, Option.some.injEq] at h; subst h; simp
  | f :: Fs, pl, h => by
    simp only [List.map_cons, placesL] at h
    split at h
    · rename_i n l hn hl
      cases h
      have ih := placesL_run w Fs hl
      simp only [List.mapM_cons, Sem.run_bind, run_sizeOf hn, Result.andThen_ok, Sem.run_pure] at ih ⊢
      rw [ih]
      rfl
    · cases h

theorem zrow_all2 {z : List PV} {zs : Array Value} (h : All2 g z zs.toList) (hz : z ≠ []) (n : Nat) : All2 g (zrow z n) (madeCells zs (n * z.length)).toList := by
  have hl : zs.size = z.length := by simpa using h.1
  have hpos : 0 < z.length := by cases z <;> simp_all
  have key : ∀ j, j < n * z.length → ∃ c x, z[j % z.length]? = some c ∧ (madeCells zs (n * z.length)).toList[j]? = some x ∧ Rep g c x ∧ x.oneCell' = true := by
    intro j hj
    have hm : j % z.length < z.length := Nat.mod_lt _ hpos
    obtain ⟨x, hx, hr, h1⟩ := h.at_ (List.getElem?_eq_getElem hm)
    refine ⟨_, x, List.getElem?_eq_getElem hm, ?_, hr, h1⟩
    have hx' : zs[j % z.length]? = some x := by simpa using hx
    have hb : j % z.length < zs.size := by rw [hl]; exact hm
    simp only [madeCells, Array.toList_map, List.getElem?_map, Array.toList_range, List.getElem?_range hj, Option.map_some, hl]
    rw [getElem!_pos zs _ hb]
    have := Array.getElem?_eq_getElem hb
    rw [this] at hx'
    exact hx'
  have hlen : (zrow z n).length = n * z.length := by
    unfold zrow; split <;> simp
  have hat : ∀ j c, (zrow z n)[j]? = some c → z[j % z.length]? = some c := by
    intro j c hc
    unfold zrow at hc
    split at hc
    · rw [List.getElem?_replicate] at hc
      split at hc
      · cases hc; simp [Nat.mod_one]
      · cases hc
    · simp only [List.getElem?_map, Option.map_eq_some_iff] at hc
      obtain ⟨i, hi, rfl⟩ := hc
      have hlt := (List.getElem?_eq_some_iff.1 hi).1
      simp only [List.length_range] at hlt
      rw [List.getElem?_range hlt] at hi
      cases hi
      have hm : j % z.length < z.length := Nat.mod_lt _ hpos
      simp [List.getD, List.getElem?_eq_getElem hm]
  have hlen2 : (madeCells zs (n * z.length)).toList.length = n * z.length := by simpa using size_madeCells zs (n * z.length)
  refine ⟨by rw [hlen, hlen2], fun j x hx => ?_, fun j c x hc hx => ?_⟩
  · have hj : j < n * z.length := by rw [← hlen2]; exact (List.getElem?_eq_some_iff.1 hx).1
    obtain ⟨_, y, _, hy, _, h1⟩ := key j hj
    rw [hy] at hx; cases hx; exact h1
  · have hj : j < n * z.length := by rw [← hlen]; exact (List.getElem?_eq_some_iff.1 hc).1
    obtain ⟨d, y, hd, hy, hr, _⟩ := key j hj
    rw [hy] at hx; cases hx
    rw [hat j c hc] at hd; cases hd
    exact hr
end

/-- A slice's bounds, as they are given. -/
theorem run_bound {P : Program} {w : World} {n : Int} {k : IntKind} {y : Nat} {code : BoundsCode} (h0 : 0 ≤ n) (h1 : n ≤ y) : (Instr.sliceBound (.int k n) y code).run P w = .ok n.toNat w := by
  simp [Instr.sliceBound, asIntOf, h0, h1]

theorem run_bounds {P : Program} {w : World} {lo hi : Option Value} {isS : Bool} {len cap : Nat} {l h : Int} (h0 : 0 ≤ l) (h1 : l ≤ h) (h2 : h ≤ cap)
    (hhi : (hi = none ∧ h = len) ∨ ∃ k, hi = some (.int k h)) (hlo : (lo = none ∧ l = 0) ∨ ∃ k, lo = some (.int k l)) :
    (Instr.sliceBounds isS len cap lo hi none).run P w = .ok (l.toNat, h.toNat, cap) w := by
  have hh : h.toNat ≤ cap := by omega
  have hl : l ≤ (h.toNat : Int) := by omega
  rcases hhi with ⟨rfl, rfl⟩ | ⟨k, rfl⟩ <;> rcases hlo with ⟨rfl, rfl⟩ | ⟨k', rfl⟩
  · simp [Instr.sliceBounds]
  · simp only [Int.toNat_natCast] at hl
    simp [Instr.sliceBounds, run_bound h0 hl]
  · simp [Instr.sliceBounds, run_bound (Int.le_trans h0 h1) h2]
  · simp [Instr.sliceBounds, run_bound (Int.le_trans h0 h1) h2, run_bound h0 hl]
end PG
