/- Cells of jobs' lists. -/
import Derived.Test.YtmnojbkakgfinaaDoorJp
import Derived.Test.YtmnojbkakgfinaaDoorArgJ
open Go PG Go.Proofs
set_option maxRecDepth 100000
set_option linter.unusedSimpArgs false
set_option linter.unusedVariables false
namespace Go.Proofs.YtmnojbkakgfinaaDoor

theorem JC_app (a b : List Jb) : JC (a ++ b) = JC a ++ JC b := by unfold JC; rw [List.flatMap_append]
theorem JC_drop : ∀ (L : List Jb) (i : Nat), (JC L).drop (i * 6) = JC (L.drop i)
  | L, 0 => by simp
  | [], i + 1 => by simp [JC]
  | j :: L, i + 1 => by
    have ih := JC_drop L i
    have hc : j.cs.length = 6 := rfl
    unfold JC at ih ⊢
    rw [List.flatMap_cons, List.drop_succ_cons, ← ih, List.drop_append, hc, List.drop_of_length_le (by rw [hc]; omega), List.nil_append, show (i + 1) * 6 - 6 = i * 6 by omega]
theorem JC_at {L : List Jb} {i : Nat} {j : Jb} (h : L[i]? = some j) : ((JC L).drop (i * 6)).take 6 = j.cs := by
  have hlt := (List.getElem?_eq_some_iff.1 h).1
  have hd : L.drop i = j :: L.drop (i + 1) := by
    rw [List.drop_eq_getElem_cons hlt]
    congr 1
    rw [List.getElem?_eq_getElem hlt] at h
    exact Option.some.inj h
  have hc : j.cs.length = 6 := rfl
  rw [JC_drop, hd]
  unfold JC
  rw [List.flatMap_cons, List.take_append_of_le_length (by rw [hc]; exact Nat.le_refl _), List.take_of_length_le (by rw [hc]; exact Nat.le_refl _)]
theorem JC_take {L : List Jb} {i : Nat} {j : Jb} (h : L[i]? = some j) : JC (L.take (i + 1)) = JC (L.take i) ++ j.cs := by
  rw [List.take_add_one, h]
  exact JC_snoc _ j
end Go.Proofs.YtmnojbkakgfinaaDoor
