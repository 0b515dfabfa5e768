/- THE PURE READING OF A GO FUNCTION, 14: a cut in a long text: whatever path leads there, the rest is walked once, from one state. -/
import Derived.Test.YtejmlngnpekagaaGreatDoorG3
set_option linter.unusedVariables false
set_option linter.unusedSimpArgs false
namespace PG
open Go Go.RowKit

/-- The code behind so many steps of a sequence. -/
def after : Nat → Code → Code
  | n + 1, .seq _ b => after n b
  | _, c => c
/-- The walk of the first steps; K holds ahead of the rest. -/
def pfirst (E : PE) (N : Nat) : Nat → Code → (Exit → ES → Prop) → (ES → Prop) → ES → Prop
  | n + 1, .seq a b, Q, K, s => pexec E N a (pseq (fun s' => pfirst E N n b Q K s') Q) s
  | 0, _, _, K, s => K s
  | _, _, _, _, _ => False

section
variable {E : PE} {N : Nat}
theorem codeOk_after {mu : Nat → Bool} {own : Nat → Nat → List (Nat × List Nat)} : ∀ (n : Nat) (c : Code), codeOk mu own N c = true → codeOk mu own N (after n c) = true
  | 0, c, h => by cases c <;> exact h
  | n + 1, .seq a b, h => by
    simp only [codeOk, Bool.and_eq_true] at h
    exact codeOk_after n b h.2
  | n + 1, .skip, h => h
  | n + 1, .region .., h => h
  | n + 1, .cond .., h => h
  | n + 1, .loop .., h => h
  | n + 1, .block .., h => h
  | n + 1, .exit .., h => h
  | n + 1, .ret, h => h
  | n + 1, .rangeFunc .., h => h
  | n + 1, .scope .., h => h
  | n + 1, .label .., h => h
  | n + 1, .goto .., h => h
  | n + 1, .refuse .., h => h
theorem cut_sound (hm : E.P.follows .mixedOrders = true) {K : ES → Prop} {Q : Exit → ES → Prop} : ∀ (n : Nat) (c : Code) (s : ES), codeOk E.mu E.own N c = true → (∀ s, K s → PSem E N none (after n c) Q s) → pfirst E N n c Q K s → PSem E N none c Q s
  | 0, c, s, hok, hK, h => by
    have h' : K s := by cases c <;> exact h
    have := hK s h'
    cases c <;> exact this
  | n + 1, .seq a b, s, hok, hK, h => fun wk w0 Pr0 m Pr ac w hr => by
    simp only [codeOk, Bool.and_eq_true] at hok
    refine wpIn_seq (wpIn_mono (pexec_sound hm a _ s hok.1 none (.inl rfl) h wk w0 Pr0 m Pr ac w hr) ?_)
    rintro e a' w' ⟨s', m', Pr', hq, hr'⟩
    cases e with
    | normal => exact cut_sound hm n b s' hok.2 hK hq wk w0 Pr0 m' Pr' a' w' hr'
    | _ => exact ⟨s', m', Pr', hq, hr'⟩
  | n + 1, .skip, s, hok, hK, h => h.elim
  | n + 1, .region .., s, hok, hK, h => h.elim
  | n + 1, .cond .., s, hok, hK, h => h.elim
  | n + 1, .loop .., s, hok, hK, h => h.elim
  | n + 1, .block .., s, hok, hK, h => h.elim
  | n + 1, .exit .., s, hok, hK, h => h.elim
  | n + 1, .ret, s, hok, hK, h => h.elim
  | n + 1, .rangeFunc .., s, hok, hK, h => h.elim
  | n + 1, .scope .., s, hok, hK, h => h.elim
  | n + 1, .label .., s, hok, hK, h => h.elim
  | n + 1, .goto .., s, hok, hK, h => h.elim
  | n + 1, .refuse .., s, hok, hK, h => h.elim
theorem PSem.weak {c : Code} {Q : Exit → ES → Prop} {s s' : ES} {r : Option Nat} (h : PSem E N r c Q s') (hw : Wk s s') : PSem E N r c Q s :=
  fun wk w0 Pr0 m Pr a w hr => h wk w0 Pr0 m Pr a w (hr.weak hw)
class CT where
  k : ES → Prop
def qfirst (E : PE) (N : Nat) (n : Nat) (c : Code) (s : ES) [Q : QT] [K : CT] : Prop := pfirst E N n c Q.q K.k s
theorem qfirst_succ {n : Nat} {a b : Code} {s : ES} {Q : QT} {K : CT} : @qfirst E N (n + 1) (.seq a b) s Q K = @qexec E N a s ⟨pseq (fun s' => @qfirst E N n b s' Q K) Q.q⟩ := (rfl)
theorem qfirst_zero {c : Code} {s : ES} {Q : QT} {K : CT} : @qfirst E N 0 c s Q K = K.k s := by
  unfold qfirst; cases c <;> rfl
theorem after_succ {n : Nat} {a b : Code} : after (n + 1) (.seq a b) = after n b := (rfl)
theorem after_zero {c : Code} : after 0 c = c := by cases c <;> rfl
/-- A CUT behind n steps: each path comes to a state of the one shape; from there on the rest. -/
theorem PSem.cut (hm : E.P.follows .mixedOrders = true) {c : Code} {Q : Exit → ES → Prop} {s : ES} (hok : codeOk E.mu E.own N c = true) (n : Nat) {ι : Type} (St : ι → ES) (J : ι → Prop)
    (h1 : @qfirst E N n c s ⟨Q⟩ ⟨fun s' => ∃ i, J i ∧ Wk s' (St i)⟩) (h2 : ∀ i, J i → PSem E N none (after n c) Q (St i)) : PSem E N none c Q s :=
  cut_sound hm n c s hok (fun s' ⟨i, hj, hw⟩ => (h2 i hj).weak hw) h1
theorem PSem.last (hm : E.P.follows .mixedOrders = true) {c : Code} {Q : Exit → ES → Prop} {s : ES} (hok : codeOk E.mu E.own N c = true) (h : @qexec E N c s ⟨Q⟩) : PSem E N none c Q s :=
  pexec_sound hm c Q s hok none (.inl rfl) h
end
end PG
