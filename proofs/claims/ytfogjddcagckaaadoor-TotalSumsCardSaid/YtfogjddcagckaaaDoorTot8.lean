/- Totals: a turned list of pairs; one more pair. -/
import Derived.Test.YtfogjddcagckaaaDoorTot7
import Derived.Test.YtfogjddcagckaaaDoorG7
open Go PG Go.Proofs
set_option maxRecDepth 100000
set_option linter.unusedSimpArgs false
set_option linter.unusedVariables false
namespace Go.Proofs.YtfogjddcagckaaaDoor

theorem times_at {L : List (Nat × Nat)} (hL : L.length ≤ 65535) (hb : ∀ q ∈ L, q.1 < W ∧ q.2 < W) {i : Nat} {x y : Nat} (h : L[i]? = some (x, y)) :
    PCM E 62 [.ptr 0 0, .val (.int .u64 (x : Nat)), .val (.int .u64 (y : Nat))] [(dotT (L.take i)).bk] (.val (.int .i64 0)) [(dotT (L.take (i + 1))).bk] := by
  obtain ⟨hi, e⟩ := List.getElem?_eq_some_iff.1 h
  obtain ⟨h1, h2⟩ := dotT_take (l := L) (by omega) i (by omega)
  have hx := hb L[i] (List.getElem_mem _)
  rw [e] at hx
  have := T_Times h1 hx.1 hx.2
  rw [List.take_succ_eq_append_getElem hi, dotT_snoc, e]
  rwa [if_pos (by omega), if_pos (by omega)] at this

/-- The list turned by m. -/
def turnL (l : List (Nat × Nat)) (m : Nat) : List (Nat × Nat) := l.drop m ++ l.take m
theorem turnL_len (l : List (Nat × Nat)) {m : Nat} (hm : m ≤ l.length) : (turnL l m).length = l.length := by
  unfold turnL; rw [List.length_append, List.length_drop, List.length_take]; omega
theorem turnL_get {l : List (Nat × Nat)} {b i : Nat} (hi : i < l.length) (hj : (i + b) % l.length < l.length) :
    (turnL l (b % l.length))[i]? = some l[(i + b) % l.length] := by
  have hm : b % l.length < l.length := Nat.mod_lt _ (by omega)
  unfold turnL
  rw [← List.getElem?_eq_getElem hj]
  by_cases h : i < l.length - b % l.length
  · rw [List.getElem?_append_left (by rw [List.length_drop]; exact h), List.getElem?_drop]
    congr 1
    rw [Nat.add_mod, Nat.mod_eq_of_lt hi, Nat.mod_eq_of_lt (a := i + b % l.length) (by omega)]
    omega
  · rw [List.getElem?_append_right (by rw [List.length_drop]; omega), List.length_drop, List.getElem?_take_of_lt (by omega)]
    congr 1
    rw [Nat.add_mod, Nat.mod_eq_of_lt hi, Nat.mod_eq_sub_mod (a := i + b % l.length) (by omega), Nat.mod_eq_of_lt (a := i + b % l.length - l.length) (by omega)]
    omega
theorem turnL_mem {l : List (Nat × Nat)} {m : Nat} {q : Nat × Nat} (h : q ∈ turnL l m) : q ∈ l := by
  unfold turnL at h
  rcases List.mem_append.1 h with h | h
  · exact List.mem_of_mem_drop h
  · exact List.mem_of_mem_take h
theorem dotT_turn {l : List (Nat × Nat)} (hl : l.length ≤ 65536) (m : Nat) : dotT (turnL l m) = dotT l := by
  have h : (l.drop m).length + (l.take m).length = l.length := by rw [List.length_drop, List.length_take]; omega
  rw [turnL, dotT_append _ _ (by omega), joinT_comm, ← dotT_append _ _ (by omega), List.take_append_drop]
theorem dotT_parts {l : List (Nat × Nat)} (hl : l.length ≤ 65536) (m : Nat) : joinT (dotT (l.drop m)) (dotT (l.take m)) = dotT l := by
  have h : (l.drop m).length + (l.take m).length = l.length := by rw [List.length_drop, List.length_take]; omega
  rw [joinT_comm, ← dotT_append _ _ (by omega), List.take_append_drop]

theorem fields2p {P : Program} {w : World} {l : List Field} {a b : TypeId} {n : Nat} {A B : List PV → Prop} (h : l.map (fun f => (f.type, f.offset)) = [(a, 0), (b, n)])
    (ca : P.cellsOf a = n) (ra : Rd P w a A) (rb : Rd P w b B) : FieldsRd P w 0 l [A, B] := by
  rcases l with _ | ⟨f, _ | ⟨g, _ | ⟨k, l⟩⟩⟩
  · cases h
  · simp at h
  · simp only [List.map_cons, List.map_nil, List.cons.injEq, Prod.mk.injEq, and_true] at h
    obtain ⟨⟨h1, h2⟩, h3, h4⟩ := h
    exact ⟨h2, h1 ▸ ra, by rw [h1, ca, Nat.zero_add]; exact h4, h3 ▸ rb, trivial⟩
  · simp at h
theorem pairs_of {Q : List PV → Prop} (hQ : ∀ l, Q l → ∃ n, l = [.int .u64 n] ∧ IntKind.u64.min ≤ n ∧ n ≤ IntKind.u64.max) : ∀ (els : List (List PV)), (∀ x ∈ els, Parts [Q, Q] x ∧ x.length = 2) →
    ∃ ls : List (Nat × Nat), els.flatten = flatP ls ∧ ls.length = els.length ∧ ∀ q ∈ ls, q.1 < W ∧ q.2 < W
  | [], _ => ⟨[], rfl, rfl, fun q h => by cases h⟩
  | x :: els, h => by
    obtain ⟨ls, h1, h2, h3⟩ := pairs_of hQ els fun y hy => h y (List.mem_cons_of_mem _ hy)
    obtain ⟨⟨a, r, rfl, ha, b, r2, rfl, hb, rfl⟩, -⟩ := h x List.mem_cons_self
    obtain ⟨n, rfl, n1, n2⟩ := hQ _ ha
    obtain ⟨m, rfl, m1, m2⟩ := hQ _ hb
    have e1 : IntKind.u64.min = 0 := by decide
    have e2 : IntKind.u64.max = 18446744073709551615 := by decide
    have eW : W = 18446744073709551616 := by decide
    rw [e1] at n1 m1
    rw [e2] at n2 m2
    refine ⟨(n.toNat, m.toNat) :: ls, ?_, by simp [h2], ?_⟩
    · have f1 : ((n.toNat : Nat) : Int) = n := Int.toNat_of_nonneg n1
      have f2 : ((m.toNat : Nat) : Int) = m := Int.toNat_of_nonneg m1
      show [.int .u64 n] ++ ([.int .u64 m] ++ []) ++ els.flatten = [PV.int .u64 (n.toNat : Nat), PV.int .u64 (m.toNat : Nat)] ++ flatP ls
      rw [h1, f1, f2]
      rfl
    · intro q hq
      rcases List.mem_cons.1 hq with rfl | hq
      · rw [eW]
        dsimp only
        omega
      · exact h3 q hq
theorem a_pairs {t d e : TypeId} (w : World) (ht : E.P.underlying t = some (.slice d)) (hd : E.P.underlying d = some (.struct (E.P.fieldsOf d))) (hdf : (E.P.fieldsOf d).toList.map (fun f => (f.type, f.offset)) = [(e, 0), (e, 1)])
    (hdw : widths E.P 0 (E.P.fieldsOf d).toList = E.P.cellsOf d) (cd : E.P.cellsOf d = 2) (ce : E.P.cellsOf e = 1) (te : E.P.underlying e = some (.int .u64)) : ArgRd E.P w t qPairs :=
  arg_imp (ArgRd.slice ht cd (Rd.struct (w := w) hd (fields2p hdf ce (Rd.int te) (Rd.int te)) hdw)) fun p ⟨els, h, h1⟩ => by
    obtain ⟨ls, l1, l2, l3⟩ := pairs_of (fun l h => h) els h1
    exact ⟨ls, by rw [h, PLs, l1, l2], l3⟩
end Go.Proofs.YtfogjddcagckaaaDoor
