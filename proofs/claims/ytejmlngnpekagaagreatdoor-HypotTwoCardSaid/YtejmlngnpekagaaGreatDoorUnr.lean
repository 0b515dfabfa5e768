/- THE PURE READING OF A GO FUNCTION, 15: a loop of a known number of rounds is walked round by round. -/
import Derived.Test.YtejmlngnpekagaaGreatDoorG3
set_option linter.unusedVariables false
set_option linter.unusedSimpArgs false
namespace PG
open Go Go.RowKit

/-- It ends within so many rounds. -/
def PUnr (E : PE) (N : Nat) (c : Code) (Q : Exit → ES → Prop) : Nat → ES → Prop
  | 0, _ => False
  | n + 1, s => pexec E N c (pseq (PUnr E N c Q n) Q) s

section
variable {E : PE} {N : Nat}
theorem PLoop.unroll {c : Code} {Q : Exit → ES → Prop} {s : ES} (n : Nat) (h : PUnr E N c Q n s) : PLoop E N c Q s := by
  intro hok hm r hr0 wk w0 Pr0 m Pr a w hrel
  let Good : Act → World → Nat → Prop := fun a w n => ∃ s, PUnr E N c Q n s ∧ ∃ m Pr, Rel E N wk w0 Pr0 s.den m Pr a w
  let mu : Act → World → Nat := fun a w => open Classical in if h : ∃ n, Good a w n then Classical.choose (exists_least h) else 0
  have hmu : ∀ a w, (h : ∃ n, Good a w n) → Good a w (mu a w) ∧ ∀ k, Good a w k → mu a w ≤ k := fun a w h => by
    have := Classical.choose_spec (exists_least h)
    simp only [mu, dif_pos h]
    exact this
  refine wpIn_loop (fun a w => ∃ n, Good a w n) mu ⟨n, s, h, m, Pr, hrel⟩ fun a w hI => ?_
  obtain ⟨⟨s, hs, m, Pr, hrel⟩, hmin⟩ := hmu a w hI
  generalize hn : mu a w = k at *
  cases k with
  | zero => exact hs.elim
  | succ k =>
    refine wpIn_mono (pexec_sound hm c _ _ hok r hr0 hs wk w0 Pr0 m Pr a w hrel) ?_
    rintro e a' w' ⟨s', m', Pr', hq, hr'⟩
    cases e with
    | normal =>
      have hg : Good a' w' k := ⟨s', hq, m', Pr', hr'⟩
      refine ⟨⟨_, hg⟩, ?_⟩
      have := (hmu a' w' ⟨_, hg⟩).2 _ hg
      omega
    | _ => exact ⟨s', m', Pr', hq, hr'⟩
def qunr (E : PE) (N : Nat) (n : Nat) (c : Code) (s : ES) [Q : QT] : Prop := PUnr E N c Q.q n s
theorem qunr_succ {n : Nat} {c : Code} {s : ES} {Q : QT} : @qunr E N (n + 1) c s Q = @qexec E N c s ⟨pseq (fun s' => @qunr E N n c s' Q) Q.q⟩ := (rfl)
theorem qloop_u {c : Code} {s : ES} {Q : QT} (n : Nat) (h : @qunr E N n c s Q) : @qloop E N c s Q := PLoop.unroll n h
end
end PG
