/- hexf: the document's reader: plain laws of what is read sign by sign. No program stands here. -/
import Derived.Test.YtnccaoeeedhgbaaGreatDoorHx2
open Go PG Go.Proofs
set_option maxRecDepth 100000
set_option linter.unusedSimpArgs false
set_option linter.unusedVariables false
namespace Go.Proofs.YtnccaoeeedhgbaaGreatDoor

theorem cutA_cons (c d : UInt8) (l : List UInt8) : cutA c (d :: l) = if d = c then [] else d :: cutA c l := by
  unfold cutA
  rw [List.takeWhile_cons]
  by_cases h : d = c
  · subst h; simp
  · rw [if_neg h, if_pos (by simpa using h)]
theorem cutB_cons (c d : UInt8) (l : List UInt8) : cutB c (d :: l) = if d = c then l else cutB c l := by
  unfold cutB
  rw [List.dropWhile_cons]
  by_cases h : d = c
  · subst h; simp
  · rw [if_neg h, if_pos (by simpa using h)]
theorem hasC_cons (c d : UInt8) (l : List UInt8) : hasC c (d :: l) = if d = c then true else hasC c l := by
  unfold hasC pos
  rw [List.takeWhile_cons]
  by_cases h : d = c
  · subst h; simp
  · rw [if_neg h, if_pos (by simpa using h)]
    simp
theorem hasC_nil (c : UInt8) : hasC c [] = false := rfl
theorem cut_in {c : UInt8} : ∀ {x : List UInt8} (y : List UInt8), hasC c x = true → cutA c (x ++ y) = cutA c x ∧ cutB c (x ++ y) = cutB c x ++ y ∧ hasC c (x ++ y) = true := by
  intro x
  induction x with
  | nil => intro y h; cases h
  | cons d x ih =>
    intro y h
    rw [List.cons_append, cutA_cons, cutA_cons, cutB_cons, cutB_cons, hasC_cons]
    rw [hasC_cons] at h
    by_cases e : d = c
    · simp only [if_pos e]; exact ⟨trivial, trivial, trivial⟩
    · simp only [if_neg e] at h ⊢
      obtain ⟨h1, h2, h3⟩ := ih y h
      exact ⟨by rw [h1], h2, h3⟩
theorem cut_out {c : UInt8} : ∀ {x : List UInt8} (y : List UInt8), hasC c x = false → cutA c (x ++ y) = x ++ cutA c y ∧ cutB c (x ++ y) = cutB c y ∧ hasC c (x ++ y) = hasC c y := by
  intro x
  induction x with
  | nil => intro y h; exact ⟨rfl, rfl, rfl⟩
  | cons d x ih =>
    intro y h
    rw [List.cons_append, cutA_cons, cutB_cons, hasC_cons]
    rw [hasC_cons] at h
    by_cases e : d = c
    · rw [if_pos e] at h; cases h
    · rw [if_neg e] at h
      simp only [if_neg e]
      obtain ⟨h1, h2, h3⟩ := ih y h
      exact ⟨by rw [h1]; rfl, h2, h3⟩
theorem cut_no {c : UInt8} {x : List UInt8} (h : hasC c x = false) : cutA c x = x ∧ cutB c x = [] := cut_none (of_decide_eq_false h)
theorem cut_yes {c : UInt8} {x : List UInt8} : hasC c x = true → x.length = (cutA c x).length + 1 + (cutB c x).length := by
  induction x with
  | nil => intro h; cases h
  | cons d x ih =>
    intro h
    rw [cutA_cons, cutB_cons]
    rw [hasC_cons] at h
    by_cases e : d = c
    · simp only [if_pos e]; simp; omega
    · rw [if_neg e] at h
      simp only [if_neg e, List.length_cons]
      have := ih h
      omega
/-- The digits, without the point; where it stands; how many stand behind it. -/
def WF (q : List UInt8) : List UInt8 := cutA 46 q ++ cutB 46 q
def ptO (o : Nat) (q : List UInt8) : Int := if hasC 46 q = true then ((o + (cutA 46 q).length : Nat) : Int) else -1
def fr (q : List UInt8) : Nat := (cutB 46 q).length
theorem wf_pt {q : List UInt8} (h : hasC 46 q = false) (o : Nat) : WF (q ++ [46]) = WF q ∧ ptO o (q ++ [46]) = ((o + q.length : Nat) : Int) ∧ fr (q ++ [46]) = fr q := by
  obtain ⟨h1, h2, h3⟩ := cut_out [46] h
  obtain ⟨g1, g2⟩ := cut_no h
  have e1 : cutA 46 [46] = [] := rfl
  have e2 : cutB 46 [46] = [] := rfl
  have e3 : hasC 46 [46] = true := rfl
  rw [e1, List.append_nil] at h1
  rw [e2] at h2
  rw [e3] at h3
  unfold WF ptO fr
  rw [h1, h2, h3, g1, g2, if_pos rfl]
  exact ⟨rfl, rfl, rfl⟩
theorem wf_dig {q : List UInt8} {c : UInt8} (h : c ≠ 46 ∨ hasC 46 q = true) (o : Nat) : WF (q ++ [c]) = WF q ++ [c] ∧ ptO o (q ++ [c]) = ptO o q ∧ (fr (q ++ [c]) : Int) = if 0 ≤ ptO o q then (fr q : Int) + 1 else fr q := by
  unfold WF ptO fr
  by_cases hc : hasC 46 q = true
  · obtain ⟨h1, h2, h3⟩ := cut_in [c] hc
    rw [h1, h2, h3, hc]
    simp only [if_true, List.append_assoc, List.length_append, List.length_singleton]
    rw [if_pos (by omega)]
    exact ⟨trivial, trivial, by omega⟩
  · have hc' : hasC 46 q = false := by simpa using hc
    obtain ⟨h1, h2, h3⟩ := cut_out [c] hc'
    obtain ⟨g1, g2⟩ := cut_no hc'
    have h4 : c ≠ 46 := by rcases h with h | h; exact h; exact absurd h hc
    have e1 : cutA 46 [c] = [c] := by rw [cutA_cons, if_neg h4]; rfl
    have e2 : cutB 46 [c] = [] := by rw [cutB_cons, if_neg h4]; rfl
    have e3 : hasC 46 [c] = false := by rw [hasC_cons, if_neg h4]; rfl
    rw [e1] at h1
    rw [e2] at h2
    rw [e3] at h3
    rw [h1, h2, h3, hc', g1, g2]
    simp
theorem wf_pre (x y : List UInt8) : ∃ z, WF (x ++ y) = WF x ++ z := by
  unfold WF
  by_cases hc : hasC 46 x = true
  · obtain ⟨h1, h2, -⟩ := cut_in y hc
    exact ⟨y, by rw [h1, h2, List.append_assoc]⟩
  · have hc' : hasC 46 x = false := by simpa using hc
    obtain ⟨h1, h2, -⟩ := cut_out y hc'
    obtain ⟨g1, g2⟩ := cut_no hc'
    exact ⟨cutA 46 y ++ cutB 46 y, by rw [h1, h2, g1, g2, List.append_nil, List.append_assoc]⟩
theorem wf_bad {x y : List UInt8} (h : ¬ (WF x).all hx = true) : ¬ (WF (x ++ y)).all hx = true := fun e => by
  obtain ⟨z, hz⟩ := wf_pre x y
  rw [hz, List.all_append, Bool.and_eq_true] at e
  exact h e.1
theorem pt_neg {o : Nat} {q : List UInt8} : ptO o q < 0 ↔ hasC 46 q = false := by
  unfold ptO
  split
  · rename_i h; rw [h]; simp; omega
  · rename_i h; simpa using h
theorem wf_len (q : List UInt8) : (WF q).length ≤ q.length ∧ fr q ≤ q.length := by
  have h := cut_sum 46 q
  unfold WF fr
  rw [List.length_append]
  exact ⟨h, by omega⟩
/-- A scan of what lies ahead of the p. -/
theorem all_scan {r : List UInt8} {k : Nat} (h : hasC 112 (r.take k) = false) : cutA 112 r = r.take k ++ cutA 112 (r.drop k) ∧ cutB 112 r = cutB 112 (r.drop k) ∧ hasC 112 r = hasC 112 (r.drop k) := by
  have := cut_out (r.drop k) h
  rwa [List.take_append_drop] at this
theorem drop_getD {r : List UInt8} {k : Nat} (h : k < r.length) : r.drop k = r.getD k 0 :: r.drop (k + 1) := by
  rw [List.drop_eq_getElem_cons h, List.getD_eq_getElem?_getD, List.getElem?_eq_getElem h]
  rfl
theorem all_stop {r : List UInt8} {k : Nat} (h : hasC 112 (r.take k) = false) (hk : k < r.length) (hc : r.getD k 0 = 112) : cutA 112 r = r.take k ∧ cutB 112 r = r.drop (k + 1) ∧ hasC 112 r = true := by
  obtain ⟨h1, h2, h3⟩ := all_scan h
  rw [drop_getD hk, hc] at h1 h2 h3
  rw [cutA_cons, if_pos rfl, List.append_nil] at h1
  rw [cutB_cons, if_pos rfl] at h2
  rw [hasC_cons, if_pos rfl] at h3
  exact ⟨h1, h2, h3⟩
theorem all_end {r : List UInt8} {k : Nat} (h : hasC 112 (r.take k) = false) (hk : r.length ≤ k) : hasC 112 r = false := by rwa [List.take_of_length_le hk] at h
theorem all_next {r : List UInt8} {k : Nat} (h : hasC 112 (r.take k) = false) (hk : k < r.length) (hc : r.getD k 0 ≠ 112) : hasC 112 (r.take (k + 1)) = false := by
  rw [← take_getD hk, (cut_out _ h).2.2, hasC_cons, if_neg hc]
  rfl
theorem hexOk_bad {l : List UInt8} {k : Nat} (h : hasC 112 ((hexR2 l).take k) = false) (hb : ¬ (WF ((hexR2 l).take k)).all hx = true) : hexOk l = false := by
  cases hh : hexOk l with
  | false => rfl
  | true =>
    have h4 := (hexOk_all hh).2.2.2.1
    refine absurd h4 ?_
    show ¬ (WF (hexAll l)).all hx = true
    unfold hexAll
    rw [(all_scan h).1]
    exact wf_bad hb
theorem hexOk_noP {l : List UInt8} (h : hexH l = false) : hexOk l = false := by
  cases hh : hexOk l with
  | false => rfl
  | true => have := (hexOk_all hh).2.2.1; rw [h] at this; cases this
theorem hexOk_noX {l : List UInt8} (h : ¬ hexX l = true) : hexOk l = false := by
  cases hh : hexOk l with
  | false => rfl
  | true => exact absurd (hexOk_all hh).2.1 h
theorem hexOk_noW {l : List UInt8} (h : hexW l = [] ∨ hexPt l = true ∧ hexF l = []) : hexOk l = false := by
  cases hh : hexOk l with
  | false => rfl
  | true =>
    obtain ⟨-, -, -, -, -, h1, h2⟩ := hexOk_all hh
    rcases h with h | h
    · exact absurd h h1
    · exact absurd h.2 (h2 h.1)
theorem hexOk_noE {l : List UInt8} (h : ¬ expOk (hexE l) = true) : hexOk l = false := by
  cases hh : hexOk l with
  | false => rfl
  | true => exact absurd (hexOk_all hh).2.2.2.2.1 h
theorem hexOk_yes {l : List UInt8} (h4 : l.length ≤ 400) (hX : hexX l = true) (hH : hexH l = true) (hw : (WF (hexAll l)).all hx = true) (hE : expOk (hexE l) = true) (h1 : hexW l ≠ []) (h2 : hexPt l = true → hexF l ≠ []) : hexOk l = true := by
  have hw2 : (hexW l ++ hexF l).all hx = true := hw
  have h3 : hexW l ++ hexF l ≠ [] := fun e => h1 (List.append_eq_nil_iff.1 e).1
  unfold hexOk
  rw [hX, hH, hw2, hE, decide_eq_true h4, decide_eq_true h3, decide_eq_false h1]
  cases hp : hexPt l with
  | false => rfl
  | true => rw [decide_eq_false (h2 hp)]; rfl
/-- The tests behind the digits. -/
theorem hexW_tests {l : List UInt8} (o : Nat) : (hexW l = [] ∨ hexPt l = true ∧ hexF l = []) ↔ (hexAll l).length = 0 ∨ ptO o (hexAll l) = (o : Int) ∨ ptO o (hexAll l) = ((o + (hexAll l).length : Nat) : Int) - 1 := by
  have e1 : hexW l = cutA 46 (hexAll l) := rfl
  have e2 : hexF l = cutB 46 (hexAll l) := rfl
  have e3 : hexPt l = hasC 46 (hexAll l) := rfl
  rw [e1, e2, e3]
  generalize hexAll l = q
  unfold ptO
  rw [← List.length_eq_zero_iff, ← List.length_eq_zero_iff]
  by_cases hc : hasC 46 q = true
  · have := cut_yes hc
    rw [hc]
    simp only [if_true, true_and]
    omega
  · have hc' : hasC 46 q = false := by simpa using hc
    obtain ⟨g1, g2⟩ := cut_no hc'
    rw [g1, hc']
    simp only [Bool.false_eq_true, if_false, false_and, or_false]
    omega
/-- The exponent's digits. -/
theorem hasP1 (E : List UInt8) (c : UInt8) : hasP E [c] = true ↔ 0 < E.length ∧ E.getD 0 0 = c := by
  unfold hasP
  rw [decide_eq_true_eq]
  cases E with
  | nil => simp
  | cons d E => simp
theorem exp_fin {E : List UInt8} {t : Nat} (h1 : t ≤ (expS E).length) (h2 : ((expS E).take t).all dgt = true) (h3 : t = (expS E).length ∨ dgt ((expS E).getD t 0) = false ∨ 6 ≤ t) (h6 : t ≤ 6) :
    (expOk E = true ↔ t = (expS E).length ∧ t ≠ 0 ∧ t ≤ 5) := by
  unfold expOk
  rw [Bool.and_eq_true, decide_eq_true_eq]
  generalize expS E = S at *
  constructor
  · rintro ⟨⟨a1, a2⟩, a3⟩
    have a4 : S.length ≠ 0 := fun e => a1 (List.length_eq_zero_iff.1 e)
    rcases h3 with h | h | h
    · omega
    · by_cases e : t = S.length
      · omega
      · have := List.all_eq_true.1 a3 _ (getD_mem (show t < S.length by omega))
        rw [h] at this; cases this
    · omega
  · rintro ⟨rfl, a2, a3⟩
    rw [List.take_length] at h2
    exact ⟨⟨fun e => a2 (List.length_eq_zero_iff.2 e), a3⟩, h2⟩
theorem drop_get (l : List UInt8) (i j : Nat) : (l.drop i).getD j 0 = l.getD (i + j) 0 := by
  rw [List.getD_eq_getElem?_getD, List.getD_eq_getElem?_getD, List.getElem?_drop]
end Go.Proofs.YtnccaoeeedhgbaaGreatDoor
