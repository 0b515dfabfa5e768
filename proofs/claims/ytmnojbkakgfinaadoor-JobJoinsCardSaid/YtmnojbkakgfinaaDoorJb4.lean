/- job.line. -/
import Derived.Test.YtmnojbkakgfinaaDoorJb3
import Derived.Test.YtmnojbkakgfinaaDoorJb2
import Derived.Test.YtmnojbkakgfinaaDoorG3
open Go PG Go.Proofs Go.RowKit
set_option maxRecDepth 100000
set_option linter.unusedSimpArgs false
set_option linter.unusedVariables false
namespace Go.Proofs.YtmnojbkakgfinaaDoor

/-- The call of slices.Insert at a row of the function's own: the row is given away. -/
theorem ins_op {N : Nat} {wk : Gh} {w0 : Fm} {Pr0 : Nat → Nat → Prop} {s : PS} {m : Nat → Value} {Pr : Nat → Nat → Prop} {a : Act} {w : World} {K : Act → World → Prop} {Q : Exit → Act → World → Prop} {cs : List PV} {c : PV} {x y : Tmp} {k j : Nat} {d : Tmp} {ty : TypeId} {pos : String} {af : Array Edge} {ats : Array TypeId}
    (hr : Rel E N wk w0 Pr0 s m Pr a w) (h31 : s.τ x = some (.row k)) (h32 : s.τ y = some (.row j)) (b20 : s.σ k = some (.row 9 1 4 cs, false)) (b32 : s.σ j = some (.row 9 1 1 [c], false)) (hkj : j ≠ k) (hcs : cs.length = 4) (hd : d < N)
    (hK : ∀ m' Pr' a' w', Rel E N wk w0 Pr0 (ES.den ⟨[(d, .val (.lst 5 (c :: cs)))], []⟩) m' Pr' a' w' → K a' w') :
    Oper.wp E.P ⟨some d, .call ⟨.value (.func 35), #[.tmp x, .const (.int .i64 0), .tmp y], ats⟩, ty, pos, af, none⟩ a w K Q := by
  obtain ⟨x31, hx31, e31⟩ := hr.tmp x _ h31
  obtain ⟨x32, hx32, e32⟩ := hr.tmp y _ h32
  obtain ⟨xs, hall, hsh, hpr⟩ := hr.blk k _ b20
  obtain ⟨ys, hally, hshy, hpry⟩ := hr.blk j _ b32
  have hsep := hr.sep j k _ _ b32 b20 hkj
  obtain ⟨hl, h | ⟨g, cap, cur, hm20, -, hh, hc1, hc2, hc3, hc4⟩⟩ := hsh
  · exact absurd h.2 (by decide)
  obtain ⟨hly, h | ⟨gv, capv, curv, hm32, -, hhv, hv1, hv2, hv3, hv4⟩⟩ := hshy
  · exact absurd h.2 (by decide)
  have hgg : gv ≠ g := fun e => by
    have := hsep gv (by rw [hm32]; rfl)
    rw [hm20, e] at this
    exact this rfl
  obtain ⟨v, rfl⟩ : ∃ v, ys = [v] := by
    match ys, hly with
    | [v], _ => exact ⟨v, rfl⟩
  have hxl : xs.length = 4 := hl
  have hexe : execOp a.eval ⟨some d, .call ⟨.value (.func 35), #[.tmp x, .const (.int .i64 0), .tmp y], ats⟩, ty, pos, af, none⟩ = callFunc 35 #[.slice (some ⟨g, 0, none⟩) 4 cap, .int .i64 0, .slice (some ⟨gv, 0, none⟩) 1 capv] := by
    have e1 : a.eval (.tmp x) = .slice (some ⟨g, 0, none⟩) 4 cap := by
      have e31' : x31 = m k := e31
      simp only [Act.eval, getD_of hx31, e31', hm20]
    have e2 : a.eval (.tmp y) = .slice (some ⟨gv, 0, none⟩) 1 capv := by
      have e32' : x32 = m j := e32
      simp only [Act.eval, getD_of hx32, e32', hm32]
    simp only [execOp, resolve, Deferred.ofValue, pure_bind, invoke, Array.empty_append, Array.append_empty, List.map_toArray, List.map_cons, List.map_nil, e1, e2, show a.eval (.const (.int .i64 0)) = .int .i64 0 from rfl, show a.eval (.func 35) = .func (.func 35) #[] #[] from rfl]
  have hent : ∀ (vs : Array Value) (w : World), (callFunc 35 vs).run E.P w = .ok (.enter 35 vs) w := enters_of Tryd.func35 (by kernel_rfl) rfl
  unfold Oper.wp
  rw [hexe, hent, Oper.upon_enter]
  refine (ins_run (w := w) (g := g) (gv := gv) (cap := cap) (capv := capv) (cur := cur) (curv := curv) (tv := 9) (cs := xs) (v := v) hh hxl (by simpa using hc4) (by omega) hc1 hc2 hhv (by simpa using hv4) hgg (fun z hz => by
      obtain ⟨i, hi, he⟩ := List.getElem_of_mem hz
      exact hall.2.1 i z (by rw [List.getElem?_eq_getElem hi, he])) (hally.2.1 0 v rfl)).mono ?_
  rintro e w' ⟨B, cp, rfl, hB, h5, hcm, hBs, hbel, hkeep, hcell⟩
  obtain ⟨hOg, hPg⟩ := hpr g (by rw [hm20]; rfl)
  have hOB : w0.O B := by
    rcases hB with rfl | rfl
    · exact w0.top _ hr.below.size
    · exact hOg
  have hPB : ∀ o, ¬ Pr B o := fun o hp => by
    rcases hB with rfl | rfl
    · exact absurd (hr.bnd _ _ hp) (Nat.lt_irrefl _)
    · have := (hPg o).1 hp
      exact Bool.false_ne_true this.1
  have hle : ∀ p z, rd w Pr p = some z → rd w' (fun b o => Pr b o ∨ (b = B ∧ o < 5)) p = some z := rd_le fun p z hp hc => ⟨.inl hp, by
    have hne : ¬ p.block = B := fun e => hPB p.off (by rw [← e]; exact hp)
    simp only [World.cell?] at hc ⊢
    rw [hbel.block p.block hne]
    exact hc⟩
  refine hK m (fun b o => Pr b o ∨ (b = B ∧ o < 5)) _ _ ⟨hr.below.trans (hbel.mono fun q hq => by subst hq; exact hOB), ?_, hr.pin, fun p z hp => hle p z (hr.keep p z hp), ?_, fun b o hp => .inl (hr.pr0 b o hp), fun b o hp => ?_, fun b o hp => ?_, fun q us hq => (hr.glob q us hq).mono hle, fun t u hu => ?_, fun q b hq => (by cases hq), fun q q' b b' hq => (by cases hq)⟩
  · obtain ⟨⟨Ds, e1, e2, e3⟩, e4⟩ := dk_keep hr.dfr hkeep
    exact ⟨⟨Ds, e1, e2, e3⟩, e4⟩
  · simpa [Act.put] using hr.sz
  · rcases hp with hp | ⟨rfl, -⟩
    · exact hr.new b o hp
    · exact .inr hOB
  · rcases hp with hp | ⟨rfl, -⟩
    · exact Nat.lt_of_lt_of_le (hr.bnd b o hp) hbel.size
    · exact hBs
  · simp only [ES.den, sget] at hu
    split at hu
    · rename_i ht
      subst ht
      cases hu
      have hlt : t < a.tmps.size := by rw [hr.sz]; exact hd
      have hput : (a.put (some t) (.slice (some ⟨B, 0, none⟩) 5 cp)).tmps[t]? = some (.slice (some ⟨B, 0, none⟩) 5 cp) := by simp [Act.put, hlt]
      refine ⟨.slice (some ⟨B, 0, none⟩) 5 cp, hput, ?_⟩
      refine Rep.lst ⟨B, 0, none⟩ 5 cp (c :: cs) (v :: xs) h5 hcm (by rw [List.length_cons, List.length_cons, hall.1]; rfl) (fun i z hz => ?_) (fun i z hz => ?_) (fun i q z hq hz => ?_)
      · cases i with
        | zero => cases hz; exact hally.2.1 0 v rfl
        | succ i => exact hall.2.1 i z hz
      · rw [rd_some, addr_add, Nat.zero_add]
        have hi : i < 5 := by
          have := (List.getElem?_eq_some_iff.1 hz).1
          rw [List.length_cons, hxl] at this
          exact this
        exact ⟨.inr ⟨rfl, hi⟩, hcell i z hz⟩
      · cases i with
        | zero => cases hq; cases hz; exact (hally.2.2 0 _ _ rfl rfl).mono hle
        | succ i => exact (hall.2.2 i q z hq hz).mono hle
    · cases hu
end Go.Proofs.YtmnojbkakgfinaaDoor
