import Derived.Test.YtfkgaldbcngliaaGreatDoorG8
open Go PG Go.Proofs
set_option maxRecDepth 100000
set_option linter.unusedSimpArgs false
set_option linter.unusedVariables false
namespace Go.Proofs.YtfkgaldbcngliaaGreatDoor
theorem one_blk {σ : List (Nat × (Bk × Bool))} {k : Nat} {b : Bk} (h : sget σ k = some (b, false)) : ∀ (i : Nat) (bb : Bk) (k' : Nat), [b][i]? = some bb → [k][i]? = some k' → sget σ k' = some (bb, false)
  | 0, bb, k', hb, hk => by
    simp only [List.getElem?_cons_zero, Option.some.injEq] at hb hk
    subst hb hk
    exact h
  | i + 1, bb, k', hb, hk => by simp at hb
theorem two_blk {σ : List (Nat × (Bk × Bool))} {k j : Nat} {b c : Bk} (h : sget σ k = some (b, false) ∧ sget σ j = some (c, false)) : ∀ (i : Nat) (bb : Bk) (k' : Nat), [b, c][i]? = some bb → [k, j][i]? = some k' → sget σ k' = some (bb, false)
  | 0, bb, k', hb, hk => by
    simp only [List.getElem?_cons_zero, Option.some.injEq] at hb hk
    subst hb hk
    exact h.1
  | 1, bb, k', hb, hk => by
    simp only [List.getElem?_cons_succ, List.getElem?_cons_zero, Option.some.injEq] at hb hk
    subst hb hk
    exact h.2
  | i + 2, bb, k', hb, hk => by simp at hb
theorem fin1 {E : PE} {N : Nat} {rs : List ResultVar} {b : Bk} {s : ES} {pv : PV} (h0 : 0 < N) (hσ : sget s.σ N = some (b, false)) (hp : presF E s rs = some (pv, [])) : finM E N 1 rs (.val pv) [b] s :=
  finM_val h0 (fun i bb hb => by
    match i, hb with
    | 0, hb => simp only [List.getElem?_cons_zero, Option.some.injEq] at hb; subst hb; exact hσ
    | i + 1, hb => simp at hb) rfl hp (fun _ _ h => by cases h)
theorem fin2 {E : PE} {N : Nat} {rs : List ResultVar} {b c : Bk} {s : ES} {pv : PV} (h0 : 0 < N) (h1 : sget s.σ N = some (b, false)) (h2 : sget s.σ (N + 1) = some (c, false)) (hp : presF E s rs = some (pv, [])) : finM E N 2 rs (.val pv) [b, c] s :=
  finM_val h0 (fun i bb hb => by
    match i, hb with
    | 0, hb => simp only [List.getElem?_cons_zero, Option.some.injEq] at hb; subst hb; exact h1
    | 1, hb => simp only [List.getElem?_cons_succ, List.getElem?_cons_zero, Option.some.injEq] at hb; subst hb; exact h2
    | i + 2, hb => simp at hb) rfl hp (fun _ _ h => by cases h)
end Go.Proofs.YtfkgaldbcngliaaGreatDoor
