/- internal/strconv.ParseUint at base 16, every text. -/
import Derived.Test.YtmnojbkakgfinaaDoorK2
import Derived.Test.YtmnojbkakgfinaaDoorStr5
import Derived.Lib.ConvBytes
open Go PG Go.Proofs Go.RowKit
set_option maxRecDepth 100000
set_option linter.unusedSimpArgs false
set_option linter.unusedVariables false
namespace Go.Proofs.YtmnojbkakgfinaaDoor

/-- '[]byte(s)': a list of bytes that nobody writes. -/
theorem bytes_op {N : Nat} {wk : Gh} {w0 : Fm} {Pr0 : Nat → Nat → Prop} {m : Nat → Value} {Pr : Nat → Nat → Prop} {a : Act} {w : World} {K : Act → World → Prop} {Q : Exit → Act → World → Prop} {τ : List (Nat × SV)} {l : List UInt8} {x : Tmp} {d : Tmp} {ty : TypeId} {pos : String} {af : Array Edge}
    (hr : Rel E N wk w0 Pr0 (ES.den ⟨τ, []⟩) m Pr a w) (hx : sget τ x = some (.val (TX l))) (hl : l.length ≤ 100000) (hd : d < N)
    (hK : ∀ m' Pr' a' w', Rel E N wk w0 Pr0 (ES.den ⟨(d, .val (.lst l.length (BL l))) :: τ, []⟩) m' Pr' a' w' → K a' w') :
    Oper.wp E.P ⟨some d, .convert 9 50 (.tmp x), ty, pos, af, none⟩ a w K Q := by
  obtain ⟨xv, hxv, ex⟩ := hr.tmp x _ hx
  have e1 : a.eval (.tmp x) = .string (B8 l) := by
    have : xv = .string (B8 l) := (ex : Rep _ _ _).str_inv
    simp only [Act.eval, getD_of hxv, this]
  have hsl : Tryd.prog.underlying 50 = some (.slice 5) := lk_slice Lay50.1
  have hst : Tryd.prog.underlying 9 = some .string := lk_str Lay9.1
  have hby : Tryd.prog.underlying 5 = some (.int .u8) := lk_int Lay5.1
  have hrun := Lib.run_convert_string_bytes w 9 50 5 (B8 l) hst hsl hby
  have hexe : (execOp a.eval ⟨some d, .convert 9 50 (.tmp x), ty, pos, af, none⟩).run E.P w = .ok (.value (.slice (some ⟨w.heap.size, 0, none⟩) (B8 l).size (grownCap w (B8 l).size 0 5))) (Lib.bytesWorld w 5 (B8 l)) := by
    simp only [execOp, e1, Sem.run_bind]
    rw [show E.P = Tryd.prog from rfl, hrun]
    rfl
  have hsz : (B8 l).size = l.length := B8_size l
  have hge := grownCap_ge w (B8 l).size 0 5
  have hle := grownCap_le_maxLen w (B8 l).size 0 5 (by rw [hsz]; unfold maxLen; omega)
  unfold Oper.wp
  rw [hexe]
  have hbel : Bel w0.O w (Lib.bytesWorld w 5 (B8 l)) := ⟨rfl, rfl, rfl, by rw [Lib.bytesWorld_size]; omega, fun k hk => by
    by_cases h : k < w.heap.size
    · exact Lib.bytesWorld_at_old w _ _ k h
    · have : k ≠ w.heap.size := fun e => hk (by rw [e]; exact w0.top _ hr.below.size)
      rw [Array.getElem?_eq_none (by rw [Lib.bytesWorld_size]; omega), Array.getElem?_eq_none (by omega)]⟩
  have hkeep : KeepsOthers w (Lib.bytesWorld w 5 (B8 l)) := ⟨by rw [Lib.bytesWorld_size]; omega, fun k o h _ => by
    rw [Lib.bytesWorld_at_old w _ _ k (Array.getElem?_eq_some_iff.1 h).1]; exact h⟩
  have hcell : ∀ (j : Nat), j < l.length → (Lib.bytesWorld w 5 (B8 l)).cell? ⟨w.heap.size, j, none⟩ = some (.int .u8 ((l.getD j 0).toNat : Nat)) := fun j hj => by
    rw [Lib.bytesWorld_cell w _ _ j (by rw [hsz]; exact hj), B8_data]
  have hcold : ∀ p : Addr, p.block < w.heap.size → (Lib.bytesWorld w 5 (B8 l)).cell? p = w.cell? p := fun p hp => Lib.bytesWorld_old w _ _ p hp
  have hws : (Lib.bytesWorld w 5 (B8 l)).heap.size = w.heap.size + 1 := Lib.bytesWorld_size _ _ _
  rw [hsz] at hge hle ⊢
  generalize Lib.bytesWorld w 5 (B8 l) = w' at *
  generalize grownCap w l.length 0 5 = cp at *
  have hle2 : ∀ p z, rd w Pr p = some z → rd w' (fun b o => Pr b o ∨ (b = w.heap.size ∧ o < l.length)) p = some z := rd_le fun p z hp hc => ⟨.inl hp, by
    rw [hcold p (hr.bnd _ _ hp)]
    exact hc⟩
  refine hK m (fun b o => Pr b o ∨ (b = w.heap.size ∧ o < l.length)) _ _ ⟨hr.below.trans hbel, ?_, hr.pin, fun p z hp => hle2 p z (hr.keep p z hp), ?_, fun b o hp => .inl (hr.pr0 b o hp), fun b o hp => ?_, fun b o hp => ?_, fun q us hq => (hr.glob q us hq).mono hle2, fun t u hu => ?_, fun q b hq => (by cases hq), fun q q' b b' hq => (by cases hq)⟩
  · obtain ⟨⟨Ds, e1, e2, e3⟩, e4⟩ := dk_keep hr.dfr hkeep
    exact ⟨⟨Ds, e1, e2, e3⟩, e4⟩
  · simpa [Act.put] using hr.sz
  · rcases hp with hp | ⟨rfl, -⟩
    · exact hr.new b o hp
    · exact .inr (w0.top _ hr.below.size)
  · rcases hp with hp | ⟨rfl, -⟩
    · exact Nat.lt_of_lt_of_le (hr.bnd b o hp) (by omega)
    · omega
  · have hlt : d < a.tmps.size := by rw [hr.sz]; exact hd
    simp only [ES.den, sget] at hu
    split at hu
    · rename_i ht
      subst ht
      cases hu
      have hput : (a.put (some t) (.slice (some ⟨w.heap.size, 0, none⟩) l.length cp)).tmps[t]? = some (.slice (some ⟨w.heap.size, 0, none⟩) l.length cp) := by simp [Act.put, hlt]
      refine ⟨_, hput, ?_⟩
      refine Rep.lst ⟨w.heap.size, 0, none⟩ l.length cp (BL l) (l.map fun c => Value.int .u8 (c.toNat : Nat)) hge hle (by rw [List.length_map, BL_length]) (fun i z hz => ?_) (fun i z hz => ?_) (fun i q z hq hz => ?_)
      · rw [List.getElem?_map, Option.map_eq_some_iff] at hz
        obtain ⟨c, -, rfl⟩ := hz
        rfl
      · rw [rd_some, addr_add, Nat.zero_add]
        rw [List.getElem?_map, Option.map_eq_some_iff] at hz
        obtain ⟨c, hc, rfl⟩ := hz
        have hi := (List.getElem?_eq_some_iff.1 hc).1
        refine ⟨.inr ⟨rfl, hi⟩, ?_⟩
        rw [hcell i hi, List.getD_eq_getElem?_getD, hc]
        rfl
      · unfold BL at hq
        rw [List.getElem?_map, Option.map_eq_some_iff] at hz hq
        obtain ⟨c, hc, rfl⟩ := hz
        obtain ⟨c', hc', rfl⟩ := hq
        rw [hc] at hc'
        cases hc'
        exact .int _ _
    · rename_i ht
      obtain ⟨y, hy, hry⟩ := hr.tmp t u hu
      refine ⟨y, ?_, SRep.mono hle2 (fun _ _ => rfl) hry⟩
      have : ¬ d = t := fun e => ht e.symm
      simp [Act.put, Array.getElem?_setIfInBounds, this, hy]
theorem step_atU {ops : Array Oper} {i : Nat} {o : Oper} {s s' : PS} (ho : ops[i]? = some o) (hg : o.guard = none) (hs : StepP E o s s') : StepI E ops i s s' := ⟨o, ho, by rw [hg]; exact hs⟩
/-- The region ahead of a walk over a text's bytes. -/
theorem conv_ops {N : Nat} {wk : Gh} {w0 : Fm} {Pr0 : Nat → Nat → Prop} {m : Nat → Value} {Pr : Nat → Nat → Prop} {a : Act} {w : World} {Q : Exit → Act → World → Prop} {t0 t1 t2 t3 : TypeId} {p0 p1 p2 p3 : String} {f0 f1 f2 f3 : Array Edge} {τ : List (Nat × SV)} {l : List UInt8} (hN : 102 ≤ N)
    (hr : Rel E N wk w0 Pr0 (ES.den ⟨τ, []⟩) m Pr a w) (h0 : sget τ 0 = some (.val (TX l))) (hl : l.length ≤ 100000)
    (hQ : ∀ m' Pr' a' w', Rel E N wk w0 Pr0 (ES.den ⟨(101, .val (.int .i64 0)) :: (100, .val (.int .i64 (l.length : Nat))) :: (99, .val (.lst l.length (BL l))) :: (98, .val (TX l)) :: τ, []⟩) m' Pr' a' w' → Q .normal a' w') :
    wpOpsIn (RF none) 0 E.P #[⟨some 98, .move (.tmp 0), t0, p0, f0, none⟩, ⟨some 99, .convert 9 50 (.tmp 98), t1, p1, f1, none⟩,
      ⟨some 100, .call ⟨.builtin .len, #[.tmp 99], #[50]⟩, t2, p2, f2, none⟩, ⟨some 101, .move (.const (.int .i64 0)), t3, p3, f3, none⟩] Q [0, 1, 2, 3] a w := by
  obtain ⟨o0, h0'⟩ : ∃ o : Oper, o = ⟨some 98, .move (.tmp 0), t0, p0, f0, none⟩ := ⟨_, rfl⟩
  obtain ⟨o1, h1⟩ : ∃ o : Oper, o = ⟨some 99, .convert 9 50 (.tmp 98), t1, p1, f1, none⟩ := ⟨_, rfl⟩
  obtain ⟨o2, h2⟩ : ∃ o : Oper, o = ⟨some 100, .call ⟨.builtin .len, #[.tmp 99], #[50]⟩, t2, p2, f2, none⟩ := ⟨_, rfl⟩
  obtain ⟨o3, h3⟩ : ∃ o : Oper, o = ⟨some 101, .move (.const (.int .i64 0)), t3, p3, f3, none⟩ := ⟨_, rfl⟩
  rw [← h0', ← h1, ← h2, ← h3]
  have hds : dstsOk N #[o0, o1, o2, o3] = true := by
    subst h0' h1 h2 h3
    rw [dstsOk, ← Array.all_toList]
    simp only [List.all_cons, List.all_nil, Bool.and_true, Bool.and_eq_true, decide_eq_true_eq]
    exact ⟨(by omega : 98 < N), (by omega : 99 < N), (by omega : 100 < N), (by omega : 101 < N)⟩
  have nm : ∀ (i : Nat) (o : Oper) (s : PS), #[o0, o1, o2, o3][i]? = some o → isNew o.op = false → NMs #[o0, o1, o2, o3] [i] s := fun i o s ho hn j hj o' ho' hn' => by
    rw [List.mem_singleton] at hj
    subst hj
    rw [ho] at ho'
    cases ho'
    rw [hn] at hn'
    cases hn'
  rw [wpOpsIn_cons]
  refine stepI_sound (s' := ES.den ⟨(98, .val (TX l)) :: τ, []⟩) hds hr (nm 0 o0 _ rfl (by rw [h0']; rfl)) (step_atU (o := o0) rfl (by rw [h0']) ?_) fun m1 Pr1 a1 w1 hr1 => ?_
  · rw [h0']
    show StepP E ⟨some 98, .move (.tmp 0), t0, p0, f0, none⟩ _ _
    unfold StepP
    refine (if_pos (show isA (Op.move (Operand.tmp 0)) = true from rfl)).mpr ⟨.val (TX l), ?_, rfl⟩
    show stepA E (Op.move (Operand.tmp 0)) (opSV E (sget τ)) = _
    simp only [stepA, opSV, h0]
  rw [wpOpsIn_cons]
  unfold wpOpIn
  have e1 : (#[o0, o1, o2, o3] : Array Oper)[1]? = some o1 := rfl
  rw [e1]
  simp only
  rw [if_pos (by rw [h1]; simp [Region.wanted]), h1]
  refine wpIn_of_wp (fun c hc => by cases hc) (bytes_op (l := l) hr1 rfl hl (Nat.lt_of_lt_of_le (by decide) hN) fun m2 Pr2 a2 w2 hr2 => ?_)
  rw [← h1, wpOpsIn_cons]
  refine stepI_sound (s' := ES.den ⟨(100, .val (.int .i64 (l.length : Nat))) :: (99, .val (.lst l.length (BL l))) :: (98, .val (TX l)) :: τ, []⟩) hds hr2 (nm 2 o2 _ rfl (by rw [h2]; rfl)) (step_atU (o := o2) rfl (by rw [h2]) ?_) fun m3 Pr3 a3 w3 hr3 => ?_
  · rw [h2]
    show StepP E ⟨some 100, .call ⟨.builtin .len, #[.tmp 99], #[50]⟩, t2, p2, f2, none⟩ _ _
    unfold StepP
    refine (if_neg (show ¬ isA (Op.call ⟨.builtin .len, #[.tmp 99], #[50]⟩) = true from Bool.false_ne_true)).mpr ?_
    refine ⟨.val (.val (.int .i64 (l.length : Nat))), [], ?_, ?_⟩
    · show pbuiltin E .len [50] [some (.val (.lst l.length (BL l)))] = _
      unfold pbuiltin
      simp only [Lay50.1]
    · rfl
  rw [wpOpsIn_cons]
  refine stepI_sound (s' := ES.den ⟨(101, .val (.int .i64 0)) :: (100, .val (.int .i64 (l.length : Nat))) :: (99, .val (.lst l.length (BL l))) :: (98, .val (TX l)) :: τ, []⟩) hds hr3 (nm 3 o3 _ rfl (by rw [h3]; rfl)) (step_atU (o := o3) rfl (by rw [h3]) ?_) fun m4 Pr4 a4 w4 hr4 => ?_
  · rw [h3]
    show StepP E ⟨some 101, .move (.const (.int .i64 0)), t3, p3, f3, none⟩ _ _
    unfold StepP
    exact (if_pos (show isA (Op.move (Operand.const (.int .i64 0))) = true from rfl)).mpr ⟨_, rfl, rfl⟩
  exact hQ m4 Pr4 a4 w4 hr4
end Go.Proofs.YtmnojbkakgfinaaDoor
