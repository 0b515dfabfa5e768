/- slices.Insert ahead of a row of four strings: whatever its capacity. -/
import Derived.Test.YtmnojbkakgfinaaDoorPgN
import Derived.Shelf.Spec.SlicesInsertGrow
import Derived.Shelf.Spec.SlicesInsert
import Derived.Lib.LazyBuf
open Go PG Go.Proofs Go.RowKit
set_option maxRecDepth 100000
set_option linter.unusedSimpArgs false
set_option linter.unusedVariables false
namespace Go.Proofs.YtmnojbkakgfinaaDoor

def ren22 : Go.Shelf.Ren := ⟨fun | 17 => 82 | 22 => 35 | 29 => 46 | 30 => 47 | 36 => 68 | n => n, fun | 24 => 59 | n => n, fun n => n⟩
theorem lays22 : Go.Proofs.Lays2.n22 Tryd.prog ren22 := {
  mixed := by kernel_rfl
  f17 := Tryd.func82.trans (congrArg some (by kernel_rfl))
  f22 := Tryd.func35.trans (congrArg some (by kernel_rfl))
  f29 := Tryd.func46.trans (congrArg some (by kernel_rfl))
  f30 := Tryd.func47.trans (congrArg some (by kernel_rfl))
  f36 := Tryd.func68.trans (congrArg some (by kernel_rfl))
  t0 := Tryd.underlying0
  a0 := Tryd.isAgg0
  z0 := Tryd.sizeOf0
  v0 := Tryd.zeroValue0
  t3 := Tryd.underlying3
  a3 := Tryd.isAgg3
  z3 := Tryd.sizeOf3
  v3 := Tryd.zeroValue3
  t4 := Tryd.underlying4
  a4 := Tryd.isAgg4
  z4 := Tryd.sizeOf4
  v4 := Tryd.zeroValue4
  t9 := Tryd.underlying9
  a9 := Tryd.isAgg9
  z9 := Tryd.sizeOf9
  v9 := Tryd.zeroValue9
  t24 := Tryd.underlying59
  a24 := Tryd.isAgg59
  z24 := Tryd.sizeOf59
  v24 := Tryd.zeroValue59
  i9 := by kernel_rfl }
theorem keeps_setCells (b : Nat) : ∀ (vs : List Value) (o : Nat) (w : World), KeepsOthers w (w.setCells b o vs)
  | [], _, _ => KeepsOthers.refl _
  | v :: r, o, w => (KeepsOthers.setCell w _ v).trans (keeps_setCells b r (o + 1) _)
theorem bel_setCells {O : Nat → Prop} {b : Nat} (hb : O b) : ∀ (vs : List Value) (o : Nat) (w : World), Bel O w (w.setCells b o vs)
  | [], _, w => Bel.refl _ _
  | v :: r, o, w => ((Bel.refl O w).setCell (p := ⟨b, o, none⟩) hb v).trans (bel_setCells hb r (o + 1) _)
/-- What the call comes to: a row that holds one more, in a new block or in the old one. -/
theorem ins_run {w : World} {g gv cap capv : Nat} {cur curv : Array Value} {tv : TypeId} {cs : List Value} {v : Value}
    (hg : w.heap[g]? = some (.cells cur 9 (0, 0))) (hcl : cs.length = 4) (hcur : cur.toList.take 4 = cs) (hsz : cur.size = cap) (h4 : 4 ≤ cap) (hcap : cap ≤ maxLen)
    (hgv : w.heap[gv]? = some (.cells curv tv (0, 0))) (hv : curv.toList.take 1 = [v]) (hne : gv ≠ g) (h1c : ∀ x ∈ cs, x.oneCell' = true) (h1v : v.oneCell' = true) :
    Calls Tryd.prog 35 #[.slice (some ⟨g, 0, none⟩) 4 cap, .int .i64 0, .slice (some ⟨gv, 0, none⟩) 1 capv] w fun e w' => ∃ B c, e = .returned (.slice (some ⟨B, 0, none⟩) 5 c) ∧ (B = w.heap.size ∨ B = g) ∧ 5 ≤ c ∧ c ≤ maxLen ∧
      B < w'.heap.size ∧ Bel (fun k => k = B) w w' ∧ KeepsOthers w w' ∧ ∀ (j : Nat) x, (v :: cs)[j]? = some x → w'.cell? ⟨B, j, none⟩ = some x := by
  have hcell : ∀ (j : Nat), w.cell? ⟨g, 0 + j, none⟩ = cur[j]? := fun j => by rw [Nat.zero_add, cell_of_row w g j cur _ (0, 0) hg]
  have hcs : ∀ (j : Nat) x, cs[j]? = some x → w.cell? ⟨g, 0 + j, none⟩ = some x := fun j x hx => by
    rw [hcell]
    rw [← hcur, List.getElem?_take] at hx
    split at hx
    · simpa using hx
    · cases hx
  have hvs : ∀ (j : Nat) x, [v][j]? = some x → w.cell? ⟨gv, 0 + j, none⟩ = some x := fun j x hx => by
    rw [Nat.zero_add, cell_of_row w gv j curv tv (0, 0) hgv]
    rw [← hv, List.getElem?_take] at hx
    split at hx
    · simpa using hx
    · cases hx
  by_cases h5 : cap = 4
  · subst h5
    refine (Any2.slices_Insert_string_grow lays22 g 0 4 4 0 gv 0 1 capv cs [v] w (by decide) (by decide) (by decide) (by decide) (by decide) hcl rfl hcs hvs h1c (by simpa using h1v)).mono ?_
    rintro e w' ⟨rfl, rfl⟩
    have hgc := grownCap_ge w (4 + 1) 4 (ren22.t 9)
    have hgm := grownCap_le_maxLen w (4 + 1) 4 (ren22.t 9) (by decide)
    generalize grownCap w (4 + 1) 4 (ren22.t 9) = G at *
    obtain ⟨ROW, hROW⟩ : ∃ ROW : Array Value, ROW = (cs.take 0).toArray ++ Builtin.zeroCells (Value.string ⟨#[]⟩).cells (4 + 1 - 0) ++ Builtin.zeroCells (Value.string ⟨#[]⟩).cells (G - (4 + 1)) := ⟨_, rfl⟩
    rw [← hROW]
    have hRs : ROW.size = G := by
      rw [hROW]
      simp [Builtin.zeroCells, Value.cells]
      omega
    have r0 : (w.alloc (.cells ROW (ren22.t 9))).rowIs w.heap.size (ren22.t 9) G (fun j => ROW[j]?.getD default) := by
      refine ⟨ROW, heap_alloc_new w _, hRs, fun i hi => ?_⟩
      dsimp only
      rw [Array.getElem?_eq_getElem (by omega)]
      rfl
    have r1 : ((w.alloc (.cells ROW (ren22.t 9))).drew).rowIs w.heap.size (ren22.t 9) G (fun j => ROW[j]?.getD default) := r0
    have r2 := rowIs_setCells [v] 0 _ _ r1
    have r3 : ((((w.alloc (.cells ROW (ren22.t 9))).drew).setCells w.heap.size 0 [v]).drew).rowIs w.heap.size (ren22.t 9) G _ := r2
    have r4 := rowIs_setCells (cs.drop 0) (0 + 1) _ _ r3
    refine ⟨w.heap.size, G, rfl, .inl rfl, by omega, hgm, ?_, ?_, ?_, fun j x hx => ?_⟩
    · obtain ⟨c, hc, -⟩ := r4
      exact (Array.getElem?_eq_some_iff.1 hc).1
    · refine Bel.trans ((Bel.refl (fun k => k = w.heap.size) w).alloc rfl (.cells ROW (ren22.t 9))) (Bel.trans (b := ((w.alloc (.cells ROW (ren22.t 9))).drew).setCells w.heap.size 0 [v]) ?_ ?_)
      · exact (Bel.refl (fun k => k = w.heap.size) _).drew.trans (bel_setCells (O := fun k => k = w.heap.size) rfl _ _ _)
      · exact (Bel.refl (fun k => k = w.heap.size) _).drew.trans (bel_setCells (O := fun k => k = w.heap.size) rfl _ _ _)
    · exact (KeepsOthers.alloc w _).trans ((KeepsOthers.drew _).trans ((keeps_setCells _ _ _ _).trans ((KeepsOthers.drew _).trans (keeps_setCells _ _ _ _))))
    · have hj : j < 5 := by
        have := (List.getElem?_eq_some_iff.1 hx).1
        rw [List.length_cons, hcl] at this
        exact this
      rw [World.rowIs.cell r4 (i := j) (by omega)]
      cases j with
      | zero =>
        simp at hx
        subst hx
        rw [if_neg (by omega), if_pos (by simp)]
        rfl
      | succ j =>
        rw [List.getElem?_cons_succ] at hx
        rw [if_pos (by rw [List.length_drop]; omega), List.drop_zero, show j + 1 - (0 + 1) = j by omega, hx]
        rfl
  · refine (Any2.slices_Insert_string_shift lays22 g 0 4 cap 0 gv 0 1 capv cs [v] w (by decide) (by decide) (by omega) (by unfold maxLen at hcap; omega) hne hcl rfl hcs (fun j hj => by rw [hcell, Array.getElem?_eq_getElem (by omega)]; rfl)
      (fun j hj => by simp [World.frozen?, hg]) hvs h1c (by simpa using h1v) tv 9 curv.size cap (by simp [World.shape?, hgv]) (by simp [World.shape?, hg, hsz]) (by omega) (by simp [World.frozen?, hgv]) (by simp [World.frozen?, hgv])).mono ?_
    rintro e w' ⟨rfl, rfl⟩
    have r0 : w.drew.rowIs g 9 cap (fun j => cur[j]?.getD default) := by
      refine ⟨cur, hg, hsz, fun i hi => ?_⟩
      dsimp only
      rw [Array.getElem?_eq_getElem (by omega)]
      rfl
    have r2 := rowIs_setCells (cs.drop 0) (0 + (0 + 1)) _ _ r0
    have r4 := rowIs_setCells [v] (0 + 0) _ _ r2
    refine ⟨g, cap, rfl, .inr rfl, by omega, hcap, ?_, ?_, ?_, fun j x hx => ?_⟩
    · obtain ⟨c, hc, -⟩ := r4
      exact (Array.getElem?_eq_some_iff.1 hc).1
    · exact (Bel.refl (fun k => k = g) w).drew.trans ((bel_setCells (O := fun k => k = g) rfl _ _ _).trans (bel_setCells (O := fun k => k = g) rfl _ _ _))
    · exact (KeepsOthers.drew _).trans ((keeps_setCells _ _ _ _).trans (keeps_setCells _ _ _ _))
    · have hj : j < 5 := by
        have := (List.getElem?_eq_some_iff.1 hx).1
        rw [List.length_cons, hcl] at this
        exact this
      rw [World.rowIs.cell r4 (i := j) (by omega)]
      cases j with
      | zero =>
        simp at hx
        subst hx
        rw [if_pos (by simp)]
        rfl
      | succ j =>
        rw [List.getElem?_cons_succ] at hx
        rw [if_neg (by simp), if_pos (by rw [List.length_drop]; omega), List.drop_zero, show j + 1 - (0 + (0 + 1)) = j by omega, hx]
        rfl
end Go.Proofs.YtmnojbkakgfinaaDoor
