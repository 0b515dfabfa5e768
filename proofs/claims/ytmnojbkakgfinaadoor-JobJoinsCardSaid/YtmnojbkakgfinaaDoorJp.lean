/- Jobs' lines, read and told: the plain law. -/
import Derived.Test.YtmnojbkakgfinaaDoorJb8
open Go PG Go.Proofs
set_option maxRecDepth 100000
set_option linter.unusedSimpArgs false
set_option linter.unusedVariables false
namespace Go.Proofs.YtmnojbkakgfinaaDoor

theorem cutA_app {c : UInt8} {a r : List UInt8} (h : c ∉ a) : cutA c (a ++ c :: r) = a := by
  unfold cutA
  rw [List.takeWhile_append_of_pos (fun x hx => by simp; exact fun e => h (e ▸ hx))]
  simp
theorem cutB_app {c : UInt8} {a r : List UInt8} (h : c ∉ a) : cutB c (a ++ c :: r) = r := by
  unfold cutB
  rw [List.dropWhile_append_of_pos (fun x hx => by simp; exact fun e => h (e ▸ hx))]
  simp
theorem cutA_at (c x : UInt8) (l : List UInt8) : cutA c (x :: l) = if x = c then [] else x :: cutA c l := by
  unfold cutA
  rw [List.takeWhile_cons]
  by_cases h : x = c <;> simp [h]
theorem cutB_at (c x : UInt8) (l : List UInt8) : cutB c (x :: l) = if x = c then l else cutB c l := by
  unfold cutB
  rw [List.dropWhile_cons]
  by_cases h : x = c <;> simp [h]
theorem cutA_none {c : UInt8} : ∀ {a : List UInt8}, c ∉ a → cutA c a = a
  | [], _ => rfl
  | x :: a, h => by
    rw [cutA_at, if_neg (fun e => h (by simp [e])), cutA_none (fun e => h (by simp [e]))]
theorem cutA_notin (c : UInt8) : ∀ (l : List UInt8), c ∉ cutA c l
  | [] => by simp [cutA]
  | x :: l => by
    rw [cutA_at]
    split
    · simp
    · rename_i h
      simp only [List.mem_cons, not_or]
      exact ⟨fun e => h e.symm, cutA_notin c l⟩
theorem hasC_iff (c : UInt8) (l : List UInt8) : hasC c l = true ↔ c ∈ l := by
  have hp : pos c l = (cutA c l).length := rfl
  unfold hasC
  rw [decide_eq_true_eq, hp]
  constructor
  · intro h
    rcases Classical.em (c ∈ l) with h1 | h1
    · exact h1
    · rw [cutA_none h1] at h; omega
  · intro h
    have h1 : (cutA c l).length ≤ l.length := cutA_len c l
    rcases Nat.lt_or_ge (cutA c l).length l.length with h2 | h2
    · exact h2
    · have h3 : cutA c l = l := (List.takeWhile_prefix _).eq_of_length (by unfold cutA at h1 h2; omega)
      have := cutA_notin c l
      rw [h3] at this
      exact absurd h this
theorem cut_split {c : UInt8} : ∀ {l : List UInt8}, c ∈ l → l = cutA c l ++ c :: cutB c l
  | [], h => by cases h
  | x :: l, h => by
    rw [cutA_at, cutB_at]
    by_cases hx : x = c
    · rw [if_pos hx, if_pos hx, hx]; rfl
    · rw [if_neg hx, if_neg hx]
      have : c ∈ l := by
        rcases List.mem_cons.1 h with h | h
        · exact absurd h.symm hx
        · exact h
      rw [List.cons_append, ← cut_split this]
theorem hz_mem : ∀ (k b : Nat) (c : UInt8), c ∈ hz k b → 48 ≤ c
  | 0, b, c, h => by cases h
  | k + 1, b, c, h => by
    rw [hz] at h
    rcases List.mem_cons.1 h with rfl | h
    · have e : ∀ d : Fin 16, (48 : UInt8) ≤ hxd d.val := by decide +kernel
      exact e ⟨b / 16 ^ k % 16, Nat.mod_lt _ (by decide)⟩
    · exact hz_mem k b c h
theorem dec_mem (u : Nat) : ∀ c ∈ Lib.decDigits u, (48 : UInt8) ≤ c := by
  induction u using Nat.strongRecOn with
  | ind u ih =>
    have e : ∀ d : Fin 10, (48 : UInt8) ≤ UInt8.ofNat (48 + d.val) := by decide +kernel
    intro c hc
    by_cases h : u < 10
    · rw [Lib.decDigits_one h, List.mem_singleton] at hc
      subst hc
      exact e ⟨u, h⟩
    · rw [Lib.decDigits, dif_neg h] at hc
      rcases List.mem_append.1 hc with hc | hc
      · exact ih (u / 10) (by omega) c hc
      · rw [List.mem_singleton] at hc
        subst hc
        exact e ⟨u % 10, Nat.mod_lt _ (by decide)⟩
theorem itoa_mem (n : Int) : ∀ c ∈ Lib.itoa n, (45 : UInt8) ≤ c := by
  intro c hc
  unfold Lib.itoa at hc
  split at hc
  · rcases List.mem_cons.1 hc with rfl | hc
    · decide
    · exact UInt8.le_trans (by decide) (dec_mem _ c hc)
  · exact UInt8.le_trans (by decide) (dec_mem _ c hc)
theorem nm_mem (op : Int) : ∀ c ∈ nmJ op, (97 : UInt8) ≤ c := by unfold nmJ; (repeat' split) <;> decide
theorem wy_mem (d : Int) : ∀ c ∈ wyJ d, (97 : UInt8) ≤ c := by unfold wyJ; (repeat' split) <;> decide
theorem no_of {l : List UInt8} {m c : UInt8} (h : ∀ x ∈ l, m ≤ x) (hc : c < m) : c ∉ l := fun hm => absurd (h c hm) (UInt8.not_le.2 hc)
/-- The part between the two ops. -/
def Jb.mid (j : Jb) : List UInt8 := if j.op = 0 then hz 16 j.y else Lib.itoa j.n
theorem Jb.mid_no (j : Jb) {c : UInt8} (hc : c < 45) : c ∉ j.mid := by
  unfold Jb.mid
  split
  · exact no_of (m := 48) (fun x hx => hz_mem 16 j.y x hx) (UInt8.lt_trans hc (by decide))
  · exact no_of (itoa_mem j.n) hc
theorem row_eq (j : Jb) : j.row = (if j.urg = true then [33, 32] else []) ++ (nmJ j.op ++ (32 :: (hz 16 j.x ++ (32 :: (j.mid ++ (32 :: wyJ j.dir)))))) := rfl
theorem row_no10 (j : Jb) : (10 : UInt8) ∉ j.row := by
  have h1 := no_of (c := 10) (nm_mem j.op) (by decide)
  have h2 := no_of (c := 10) (fun x hx => hz_mem 16 j.x x hx) (by decide)
  have h3 := j.mid_no (c := 10) (by decide)
  have h4 := no_of (c := 10) (wy_mem j.dir) (by decide)
  rw [row_eq]
  simp only [List.mem_append, List.mem_cons, not_or]
  refine ⟨?_, h1, by decide, h2, by decide, h3, by decide, h4⟩
  split <;> decide
theorem rd0_row (j : Jb) : rd0 j.row = nmJ j.op ++ (32 :: (hz 16 j.x ++ (32 :: (j.mid ++ (32 :: wyJ j.dir))))) ∧ hasP j.row [33, 32] = j.urg := by
  rw [row_eq]
  cases hu : j.urg with
  | true =>
    have : hasP (([33, 32] : List UInt8) ++ (nmJ j.op ++ (32 :: (hz 16 j.x ++ (32 :: (j.mid ++ (32 :: wyJ j.dir))))))) [33, 32] = true := by unfold hasP; rfl
    rw [if_pos rfl]
    unfold rd0
    rw [this, if_pos rfl]
    exact ⟨rfl, rfl⟩
  | false =>
    rw [if_neg (by decide), List.nil_append]
    have : hasP (nmJ j.op ++ (32 :: (hz 16 j.x ++ (32 :: (j.mid ++ (32 :: wyJ j.dir)))))) [33, 32] = false := by
      unfold nmJ
      (repeat' split) <;> rfl
    unfold rd0
    rw [this, if_neg (by decide)]
    exact ⟨rfl, rfl⟩
/-- What is read of a right job's line is that job. -/
theorem rdJ_row {j : Jb} (hw : j.wf) (hok : j.ok = true) : rdJ j.row = j := by
  obtain ⟨h0, hu⟩ := rd0_row j
  have h1 := no_of (c := 32) (nm_mem j.op) (by decide)
  have h2 := no_of (c := 32) (fun x hx => hz_mem 16 j.x x hx) (by decide)
  have h3 := j.mid_no (c := 32) (by decide)
  have e1 : rdX j.row = hz 16 j.x ++ (32 :: (j.mid ++ (32 :: wyJ j.dir))) := by unfold rdX; rw [h0, cutB_app h1]
  have e2 : rdY j.row = j.mid ++ (32 :: wyJ j.dir) := by unfold rdY; rw [e1, cutB_app h2]
  obtain ⟨r1, r2, r3, r4⟩ := Jb.ok_rng hok
  have p1 : posL nmL (nmJ j.op) = j.op := by
    rcases r1 with h | h | h | h <;> rw [h] <;> decide
  have p2 : posL wyL (wyJ j.dir) = j.dir := by
    rcases r2 with h | h | h | h <;> rw [h] <;> decide
  unfold rdJ
  rw [hu, e1, e2, h0, cutA_app h1, cutA_app h2, cutA_app h3, cutB_app h3, p1, p2, puX_hz hw.x]
  obtain ⟨op, x, y, n, dir, urg⟩ := j
  dsimp only [Jb.mid] at *
  by_cases ho : op = 0
  · rw [if_pos ho, if_pos ho, if_pos ho, puX_hz hw.y, r3 ho]
  · rw [if_neg ho, if_neg ho, if_neg ho, piV_itoa hw.n1 hw.n2, r4 ho]
theorem rdOk_row {j : Jb} (hw : j.wf) (hok : j.ok = true) : rdOk j.row = true := by
  unfold rdOk
  rw [rdJ_row hw hok, hok]
  simp [Jb.line]
theorem line_cut {j : Jb} (r : List UInt8) : cutA 10 (j.line ++ r) = j.row ∧ cutB 10 (j.line ++ r) = r ∧ hasC 10 (j.line ++ r) = true := by
  have h := row_no10 j
  have e : j.line ++ r = j.row ++ 10 :: r := by unfold Jb.line; rw [List.append_assoc]; rfl
  rw [e]
  exact ⟨cutA_app h, cutB_app h, (hasC_iff _ _).2 (by simp)⟩
/-- Lines of right jobs, then a rest. -/
theorem psF_lines : ∀ (L acc : List Jb) (r : List UInt8), (∀ j ∈ L, j.wf ∧ j.ok = true) → psF acc (L.flatMap Jb.line ++ r) = psF (acc ++ L) r
  | [], acc, r, _ => by simp
  | j :: L, acc, r, h => by
    obtain ⟨hw, hok⟩ := h j (by simp)
    have e : (j :: L).flatMap Jb.line ++ r = j.line ++ (L.flatMap Jb.line ++ r) := by rw [List.flatMap_cons, List.append_assoc]
    rw [e]
    obtain ⟨c1, c2, c3⟩ := line_cut (j := j) (L.flatMap Jb.line ++ r)
    have hne : j.line ++ (L.flatMap Jb.line ++ r) ≠ [] := by unfold Jb.line; simp
    rw [psF, dif_neg hne, c1, c2, c3, if_pos ⟨rdOk_row hw hok, rfl⟩, rdJ_row hw hok, psF_lines L _ r fun x hx => h x (by simp [hx])]
    simp
theorem psF_nil (acc : List Jb) : psF acc [] = (acc, 0, 0) := by rw [psF, dif_pos rfl]
/-- Every text: right lines, then nothing or a wrong one. -/
theorem psF_cases (s : List UInt8) : ∀ (n : Nat), s.length ≤ n → ∀ acc : List Jb, ∃ L : List Jb, (∀ j ∈ L, j.wf ∧ j.ok = true) ∧
    ((s = L.flatMap Jb.line ∧ psF acc s = (acc ++ L, 0, 0)) ∨
     ∃ r, s = L.flatMap Jb.line ++ r ∧ r ≠ [] ∧ ¬ (rdOk (cutA 10 r) = true ∧ hasC 10 r = true) ∧ psF acc s = ([], (acc ++ L).length + 1, 4)) := by
  intro n
  induction n generalizing s with
  | zero =>
    intro hn acc
    have : s = [] := List.length_eq_zero_iff.1 (by omega)
    subst this
    exact ⟨[], by simp, .inl ⟨rfl, by rw [psF_nil]; simp⟩⟩
  | succ n ih =>
    intro hn acc
    by_cases hs : s = []
    · subst hs
      exact ⟨[], by simp, .inl ⟨rfl, by rw [psF_nil]; simp⟩⟩
    · by_cases hb : rdOk (cutA 10 s) = true ∧ hasC 10 s = true
      · have hlt := cutB_lt 10 hs
        obtain ⟨L, hL, hc⟩ := ih (cutB 10 s) (by omega) (acc ++ [rdJ (cutA 10 s)])
        have hd := hb.1
        unfold rdOk at hd
        rw [Bool.and_eq_true, decide_eq_true_eq] at hd
        have hsp := cut_split ((hasC_iff 10 s).1 hb.2)
        have hs2 : s = (rdJ (cutA 10 s)).line ++ cutB 10 s := by rw [hd.2, List.append_assoc]; exact hsp
        have hp : psF acc s = psF (acc ++ [rdJ (cutA 10 s)]) (cutB 10 s) := by rw [psF, dif_neg hs, if_pos hb]
        refine ⟨rdJ (cutA 10 s) :: L, fun j hj => ?_, ?_⟩
        · rcases List.mem_cons.1 hj with rfl | hj
          · exact ⟨rdJ_wf _, hd.1⟩
          · exact hL j hj
        · rcases hc with ⟨h1, h2⟩ | ⟨r, h1, h2, h3, h4⟩
          · refine .inl ⟨?_, ?_⟩
            · rw [List.flatMap_cons, ← h1]; exact hs2
            · rw [hp, h2]; simp
          · refine .inr ⟨r, ?_, h2, h3, ?_⟩
            · rw [List.flatMap_cons, List.append_assoc, ← h1]; exact hs2
            · rw [hp, h4]; simp
      · exact ⟨[], by simp, .inr ⟨s, rfl, hs, hb, by rw [psF, dif_neg hs, if_neg hb]; simp⟩⟩
/-- A wrong line alone. -/
theorem psF_wrong {r : List UInt8} (h1 : r ≠ []) (h2 : ¬ (rdOk (cutA 10 r) = true ∧ hasC 10 r = true)) : psF [] r = ([], 1, 4) := by
  rw [psF, dif_neg h1, if_neg h2]; rfl
end Go.Proofs.YtmnojbkakgfinaaDoor
