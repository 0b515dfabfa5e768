/- job.Print. -/
import Derived.Test.YtmnojbkakgfinaaDoorJb8
import Derived.WalkKit
import Derived.Shelf.Strings.BuilderK
open Go PG Go.Proofs Go.RowKit
set_option maxRecDepth 1000000
set_option linter.unusedSimpArgs false
set_option linter.unusedVariables false
namespace Go.Proofs.YtmnojbkakgfinaaDoor

theorem lays166b : Lays.n166 Tryd.prog Tryd.lays105_ren := { mixed := Tryd.lays105.mixed, f166 := Tryd.lays105.f166, f240 := Tryd.lays105.f240, f276 := Tryd.lays105.f276, t0 := Tryd.lays105.t0, a0 := Tryd.lays105.a0, z0 := Tryd.lays105.z0, v0 := Tryd.lays105.v0, t3 := Tryd.lays105.t3, a3 := Tryd.lays105.a3, z3 := Tryd.lays105.z3, v3 := Tryd.lays105.v3, t4 := Tryd.lays105.t4, a4 := Tryd.lays105.a4, z4 := Tryd.lays105.z4, v4 := Tryd.lays105.v4, t9 := Tryd.lays105.t9, a9 := Tryd.lays105.a9, z9 := Tryd.lays105.z9, v9 := Tryd.lays105.v9, t20 := Tryd.lays105.t20, a20 := Tryd.lays105.a20, z20 := Tryd.lays105.z20, v20 := Tryd.lays105.v20, t37 := Tryd.lays105.t37, a37 := Tryd.lays105.a37, z37 := Tryd.lays105.z37, v37 := Tryd.lays105.v37, t70 := Tryd.lays105.t70, a70 := Tryd.lays105.a70, z70 := Tryd.lays105.z70, v70 := Tryd.lays105.v70, t72 := Tryd.lays105.t72, a72 := Tryd.lays105.a72, z72 := Tryd.lays105.z72, v72 := Tryd.lays105.v72, t75 := Tryd.lays105.t75, a75 := Tryd.lays105.a75, z75 := Tryd.lays105.z75, v75 := Tryd.lays105.v75, t164 := Tryd.lays105.t164, a164 := Tryd.lays105.a164, z164 := Tryd.lays105.z164, v164 := Tryd.lays105.v164 }
/-- A builder stays one while nothing that lies is touched. -/
theorem bld_at {T e : TypeId} {B b : Nat} {p : Value} {bs : List Value} {w w' : World} (h : Lib.BuilderAtF T e B b p bs w) (hb : Below w.heap.size w w') : Lib.BuilderAtF T e B b p bs w' := by
  obtain ⟨h1, v, h2, ⟨h3, h4⟩, h5⟩ := h
  have old : ∀ (k : Nat) (o : Obj), w.heap[k]? = some o → w'.heap[k]? = some o := fun k o hk => by rw [hb.block k (Array.getElem?_eq_some_iff.1 hk).1]; exact hk
  refine ⟨h1, v, old _ _ h2, ⟨h3, ?_⟩, h5⟩
  rcases h4 with h4 | ⟨g, cap, cur, fz, hv, hg, ho, hrest⟩
  · exact .inl h4
  · exact .inr ⟨g, cap, cur, fz, hv, hg, old _ _ ho, hrest⟩
theorem bld_below {T e : TypeId} {B b : Nat} {bs : List Value} {w w' : World} (h : Lib.IsBuilderF T e B b bs w) (hb : Below w.heap.size w w') : Lib.IsBuilderF T e B b bs w' := h.elim (fun x => .inl (bld_at x hb)) fun x => .inr (bld_at x hb)
/-- A job as a value. -/
def Jb.val (j : Jb) : Value := .agg #[.int .i64 j.op, .int .u64 (j.x : Nat), .int .u64 (j.y : Nat), .int .i64 j.n, .int .i64 j.dir, .bool j.urg]
theorem Jb.rep (j : Jb) (g : Addr → Option Value) : Rep g j.pv j.val := by
  refine Rep.agg _ _ rfl (fun i x hx => ?_) (fun i c x hc hx => ?_)
  · match i with
    | 0 => cases hx; rfl
    | 1 => cases hx; rfl
    | 2 => cases hx; rfl
    | 3 => cases hx; rfl
    | 4 => cases hx; rfl
    | 5 => cases hx; rfl
    | i + 6 => simp at hx
  · match i with
    | 0 => cases hc; cases hx; exact .int _ _
    | 1 => cases hc; cases hx; exact .int _ _
    | 2 => cases hc; cases hx; exact .int _ _
    | 3 => cases hc; cases hx; exact .int _ _
    | 4 => cases hc; cases hx; exact .int _ _
    | 5 => cases hc; cases hx; exact .bool _
    | i + 6 => simp at hc
/-- What is printed. -/
def prF : List Jb → Option (List UInt8)
  | [] => some []
  | j :: l => if j.ok = true then (prF l).map (j.line ++ ·) else none
/-- What the first i lines come to. -/
def prA (l : List Jb) (i : Nat) : List UInt8 := (l.take i).flatMap Jb.line
theorem prA_succ {l : List Jb} {i : Nat} {j : Jb} (h : l[i]? = some j) : prA l (i + 1) = prA l i ++ j.line := by
  unfold prA
  rw [List.take_add_one, h, List.flatMap_append]
  simp
theorem line_len {j : Jb} (h : j.wf) : j.line.length ≤ 60 := by
  have h1 := nmJ_len j.op
  have h2 := wyJ_len j.dir
  have h3 := hz_len 16 j.x
  have h4 := hz_len 16 j.y
  have h5 := itoa_len64 h.n1 h.n2
  have h6 : (if j.op = 0 then hz 16 j.y else Lib.itoa j.n).length ≤ 20 := by split <;> omega
  have h7 : (if j.urg = true then ([33, 32] : List UInt8) else []).length ≤ 2 := by split <;> simp
  unfold Jb.line Jb.row
  simp only [List.length_append, List.length_cons, List.length_nil]
  omega
theorem flat_len : ∀ (l : List Jb), (∀ j ∈ l, j.wf) → (l.flatMap Jb.line).length ≤ 60 * l.length
  | [], _ => by simp
  | j :: l, h => by
    have h1 := line_len (h j (by simp))
    have h2 := flat_len l fun x hx => h x (by simp [hx])
    rw [List.flatMap_cons, List.length_append, List.length_cons]
    omega
theorem prA_len {l : List Jb} (h : ∀ j ∈ l, j.wf) (i : Nat) : (prA l i).length ≤ 60 * l.length := by
  have h1 := flat_len (l.take i) fun j hj => h j (List.mem_of_mem_take hj)
  have h2 : (l.take i).length ≤ l.length := by simp; omega
  unfold prA
  omega
theorem AtA.str_of {w : World} {Pr : Nat → Nat → Prop} {ob : Option Nat} {wr : World} {ps : List (PV × Value)} {b : ByteArray} {v : Value} (h : AtA w Pr ob wr ps) (hm : (PV.str b, v) ∈ ps) : v = .string b := by
  obtain ⟨_, _, _, _, _, _, h6⟩ := h
  exact (h6 _ hm).str_inv
theorem args_j (j : Jb) {ps : List (PV × Value)} : ∀ (i : Nat) p v, [j.pv][i]? = some p → #[j.val][i]? = some v → (p, v) ∈ ps ∨ ∀ g, Rep g p v := fun i p v hp hv => by
  match i with
  | 0 => cases hp; cases hv; exact .inr fun g => j.rep g
  | i + 1 => simp at hp
theorem two_rep {g : Addr → Option Value} {p q : PV} {a b : Value} (h1 : Rep g p a) (h2 : Rep g q b) : Rep g (.tuple [p, q]) (.tuple #[a, b]) := Rep.tuple _ _ rfl fun j c x hc hx => by
  match j with
  | 0 => cases hc; cases hx; exact h1
  | 1 => cases hc; cases hx; exact h2
  | j + 2 => simp at hc
theorem JC_get : ∀ (l : List Jb) (i : Nat) (j : Jb) (k : Nat), l[i]? = some j → k < 6 → (JC l)[i * 6 + k]? = j.cs[k]?
  | [], i, j, k, h, _ => by simp at h
  | a :: l, 0, j, k, h, hk => by
    cases h
    unfold JC
    have hc : a.cs.length = 6 := rfl
    rw [List.flatMap_cons, Nat.zero_mul, Nat.zero_add, List.getElem?_append_left (by omega)]
  | a :: l, i + 1, j, k, h, hk => by
    have ih := JC_get l i j k (by simpa using h) hk
    unfold JC at ih ⊢
    have hc : a.cs.length = 6 := rfl
    rw [List.flatMap_cons, List.getElem?_append_right (by omega), hc, show (i + 1) * 6 + k - 6 = i * 6 + k by omega]
    exact ih
/-- A list of jobs: where its cells lie. -/
theorem jobs_at {w : World} {Pr : Nat → Nat → Prop} {l : List Jb} {v : Value} (h : Rep (rd w Pr) (.lst l.length (JC l)) v) (hPr : ∀ g o, Pr g o → g < w.heap.size) :
    ∃ o c, v = .slice o l.length c ∧ ∀ (i : Nat) j, l[i]? = some j → ∃ b q, o = some ⟨b, q, none⟩ ∧ b < w.heap.size ∧ ∀ (k : Nat) x, (#[Value.int .i64 j.op, .int .u64 (j.x : Nat), .int .u64 (j.y : Nat), .int .i64 j.n, .int .i64 j.dir, .bool j.urg] : Array Value)[k]? = some x → w.cell? ⟨b, q + (i * 6 + k), none⟩ = some x := by
  rcases h.lst_inv with ⟨rfl, h1, -⟩ | ⟨ad, cap, us, rfl, hn, hc, hall, hm⟩
  · refine ⟨none, 0, by rw [h1], fun i j hj => ?_⟩
    have := (List.getElem?_eq_some_iff.1 hj).1
    omega
  · refine ⟨some ad, cap, rfl, fun i j hj => ?_⟩
    have hcl := JC_len l
    have hul : us.length = l.length * 6 := by rw [hall.1, hcl]
    have hcell : ∀ (i : Nat) j, l[i]? = some j → ∀ (k : Nat) x, (#[Value.int .i64 j.op, .int .u64 (j.x : Nat), .int .u64 (j.y : Nat), .int .i64 j.n, .int .i64 j.dir, .bool j.urg] : Array Value)[k]? = some x → w.cell? (ad.add (i * 6 + k)) = some x ∧ ad.block < w.heap.size := fun i j hj k x hx => by
      have hli := (List.getElem?_eq_some_iff.1 hj).1
      have hk : k < 6 := (Array.getElem?_eq_some_iff.1 hx).1
      have hg := JC_get l i j k hj hk
      have h2 := hm (i * 6 + k) us[i * 6 + k] (List.getElem?_eq_getElem (by omega))
      have h3 := hall.2.2 (i * 6 + k) (j.cs[k]'hk) us[i * 6 + k] (by rw [hg]; exact List.getElem?_eq_getElem _) (List.getElem?_eq_getElem (by omega))
      have hx2 : us[i * 6 + k] = x := by
        generalize us[i * 6 + k] = z at h3
        clear h2 hg
        match k, hk, hx, h3 with
        | 0, _, hx, h3 => cases hx; exact (h3 : Rep _ (.int _ _) _).int_inv
        | 1, _, hx, h3 => cases hx; exact (h3 : Rep _ (.int _ _) _).int_inv
        | 2, _, hx, h3 => cases hx; exact (h3 : Rep _ (.int _ _) _).int_inv
        | 3, _, hx, h3 => cases hx; exact (h3 : Rep _ (.int _ _) _).int_inv
        | 4, _, hx, h3 => cases hx; exact (h3 : Rep _ (.int _ _) _).int_inv
        | 5, _, hx, h3 => cases hx; exact (h3 : Rep _ (.bool _) _).bool_inv
      rw [hx2] at h2
      have h4 := rd_some.1 h2
      refine ⟨h4.2, ?_⟩
      have := hPr _ _ h4.1
      rwa [add_block] at this
    obtain ⟨b, q, sp⟩ := ad
    have hl0 : 0 < l.length := Nat.lt_of_le_of_lt (Nat.zero_le _) (List.getElem?_eq_some_iff.1 hj).1
    have h0 := hcell 0 l[0] (List.getElem?_eq_getElem hl0) 0 _ rfl
    have hsp : sp = none := by
      cases sp with
      | none => rfl
      | some z =>
        have := h0.1
        simp only [World.cell?, Addr.add] at this
        split at this
        · simp at this
        · cases this
    subst hsp
    refine ⟨b, q, rfl, h0.2, fun k x hx => ?_⟩
    have := (hcell i j hj k x hx).1
    rwa [addr_add] at this
set_option maxHeartbeats 2000000 in
theorem j_Print {l : List Jb} (hl : l.length ≤ 4096) (hwf : ∀ j ∈ l, j.wf) {R : PV} (hR : R = (if l.all Jb.ok = true then .tuple [TX (l.flatMap Jb.line), .int .i64 0] else .tuple [TX [], .int .i64 1])) : PC E 8 [.lst l.length (JC l)] R := by
  intro w Pr vs hPr hG hsz hreps
  have hs1 : vs.size = 1 := hsz
  obtain ⟨v0, rfl⟩ : ∃ v0, vs = #[v0] := ⟨vs[0], by
    refine Array.ext (by simp [hs1]) fun i hi hj => ?_
    have : i = 0 := by simp at hj; omega
    subst this; simp⟩
  clear hs1
  have hr0 : Rep (rd w Pr) (.lst l.length (JC l)) v0 := hreps 0 _ _ rfl rfl
  have hent : ∀ (vs : Array Value) (w : World), (callFunc 8 vs).run E.P w = .ok (.enter 8 vs) w := enters_of Tryd.func8 (by kernel_rfl) rfl
  have hst : AtA w Pr none w [] := (AtL.start hPr hG fun q hq => by cases hq).noA
  rw [hent]
  refine ⟨rfl, ?_⟩
  have hcap : ∃ o c, v0 = .slice o l.length c ∧ ∀ (i : Nat) j, l[i]? = some j → ∃ b q, o = some ⟨b, q, none⟩ ∧ b < w.heap.size ∧ ∀ (k : Nat) x, (#[Value.int .i64 j.op, .int .u64 (j.x : Nat), .int .u64 (j.y : Nat), .int .i64 j.n, .int .i64 j.dir, .bool j.urg] : Array Value)[k]? = some x → w.cell? ⟨b, q + (i * 6 + k), none⟩ = some x := jobs_at hr0 hPr
  obtain ⟨o, c, rfl, hel⟩ := hcap
  clear hPr hG hreps hsz hent hr0
  show Calls Tryd.prog 8 #[.slice o l.length c] w _
  go_enter Tryd.func8, Tryd.ntmps8
  go_wp2
  go_loopw [13] (fun k W => ∃ i : Nat, i ≤ l.length ∧ k = .int .i64 i ∧ Hid ((l.take i).all Jb.ok = true) ∧ Lib.IsBuilderF 52 5 w.heap.size w.heap.size (Lib.byteCells (prA l i)) W ∧ Below w.heap.size w W ∧ w.heap.size < W.heap.size) (fun k _ => l.length - (intOf k).toNat)
  case atStart =>
    refine ⟨0, Nat.zero_le _, rfl, rfl, Lib.IsBuilderF.of (Lib.fresh_isBuilder 52 5 w), (Below.refl _ w).alloc (Nat.le_refl _) _, by simp⟩
  case round =>
    obtain ⟨i, hi, rfl, hok, hI, hbw, hsz⟩ := hrel
    by_cases hlt : i < l.length
    · obtain ⟨j, hj⟩ : ∃ j, l[i]? = some j := ⟨l[i], List.getElem?_eq_getElem hlt⟩
      obtain ⟨b, q, rfl, hb, hc⟩ := hel i j hj
      clear hel
      have hcell : ∀ (k : Nat) x, (#[Value.int .i64 j.op, .int .u64 (j.x : Nat), .int .u64 (j.y : Nat), .int .i64 j.n, .int .i64 j.dir, .bool j.urg] : Array Value)[k]? = some x → wr.cell? ⟨b, q + (i * 6 + k), none⟩ = some x := fun k x hx => by
        simp only [World.cell?, hbw.block b hb]
        exact hc k x hx
      have c0 : wr.cell? ⟨b, q + i * 6, none⟩ = some (.int .i64 j.op) := hcell 0 _ rfl
      have c1 : wr.cell? ⟨b, q + i * 6 + 1, none⟩ = some (.int .u64 (j.x : Nat)) := hcell 1 _ rfl
      have c2 : wr.cell? ⟨b, q + i * 6 + 2, none⟩ = some (.int .u64 (j.y : Nat)) := hcell 2 _ rfl
      have c3 : wr.cell? ⟨b, q + i * 6 + 3, none⟩ = some (.int .i64 j.n) := hcell 3 _ rfl
      have c4 : wr.cell? ⟨b, q + i * 6 + 4, none⟩ = some (.int .i64 j.dir) := hcell 4 _ rfl
      have c5 : wr.cell? ⟨b, q + i * 6 + 5, none⟩ = some (.bool j.urg) := hcell 5 _ rfl
      clear hcell hc
      have hA : AtA w Pr none wr [] := hst.below hbw
      have hjw : j.wf := hwf j (List.mem_of_getElem? hj)
      have k1 := j_Check j
      have hent1 : ∀ (vs : Array Value) (w : World), (callFunc 11 vs).run E.P w = .ok (.enter 11 vs) w := enters_of Tryd.func11 (by kernel_rfl) rfl
      have hent2 : ∀ (vs : Array Value) (w : World), (callFunc 18 vs).run E.P w = .ok (.enter 18 vs) w := enters_of Tryd.func18 (by kernel_rfl) rfl
      have hBa : Below wr.heap.size wr (wr.alloc (Obj.cells #[.int .i64 j.op, .int .u64 (j.x : Nat), .int .u64 (j.y : Nat), .int .i64 j.n, .int .i64 j.dir, .bool j.urg] 34)) := (Below.refl _ wr).alloc (Nat.le_refl _) _
      have hA1 := hA.below hBa
      have hw1 : (wr.alloc (Obj.cells #[.int .i64 j.op, .int .u64 (j.x : Nat), .int .u64 (j.y : Nat), .int .i64 j.n, .int .i64 j.dir, .bool j.urg] 34)).heap[wr.heap.size]? = some (.cells #[.int .i64 j.op, .int .u64 (j.x : Nat), .int .u64 (j.y : Nat), .int .i64 j.n, .int .i64 j.dir, .bool j.urg] 34 (0, 0)) := heap_alloc_new wr _
      have hs1 : w.heap.size ≤ (wr.alloc (Obj.cells #[.int .i64 j.op, .int .u64 (j.x : Nat), .int .u64 (j.y : Nat), .int .i64 j.n, .int .i64 j.dir, .bool j.urg] 34)).heap.size := by have := hBa.size; have := hbw.size; omega
      cases hjo : j.ok with
      | false =>
        rw [hjo, if_neg (by decide)] at k1
        go_wp2_with (first
          | (go_at_call 11; refine (hA1.calls (fun b hb => by cases hb) hs1 k1 hent1 rfl (args_j j)).mono ?_; rintro e W2 ⟨v, rfl, hb2, hA2⟩; obtain rfl := hA2.int_of List.mem_cons_self))
        go_ret2
        refine ⟨_, rfl, ?_, below_to hbw hbw.size (below_to hBa hBa.size hb2)⟩
        have hall : l.all Jb.ok = false := by
          rw [Bool.eq_false_iff]
          intro h
          have := List.all_eq_true.1 h j (List.mem_of_getElem? hj)
          rw [hjo] at this
          cases this
        rw [hR, hall, if_neg (by decide)]
        exact two_rep (.str _) (.int _ _)
      | true =>
        rw [hjo, if_pos rfl] at k1
        have k2 := j_line hjw hjo
        go_wp2_with (first
          | (go_at_call 11; go_loud (refine (hA1.calls (fun b hb => by cases hb) hs1 k1 hent1 rfl (args_j j)).mono ?_; rintro e W2 ⟨v, rfl, hb2, hA2⟩; obtain rfl := hA2.int_of List.mem_cons_self; have hw2 := (hb2.block _ (Array.getElem?_eq_some_iff.1 hw1).1).trans hw1; have e0 : W2.cell? ⟨wr.heap.size, 0, none⟩ = some (.int .i64 j.op) := (by simp [World.cell?, hw2]); have e1 : W2.cell? ⟨wr.heap.size, 1, none⟩ = some (.int .u64 (j.x : Nat)) := (by simp [World.cell?, hw2]); have e2 : W2.cell? ⟨wr.heap.size, 2, none⟩ = some (.int .u64 (j.y : Nat)) := (by simp [World.cell?, hw2]); have e3 : W2.cell? ⟨wr.heap.size, 3, none⟩ = some (.int .i64 j.n) := (by simp [World.cell?, hw2]); have e4 : W2.cell? ⟨wr.heap.size, 4, none⟩ = some (.int .i64 j.dir) := (by simp [World.cell?, hw2]); have e5 : W2.cell? ⟨wr.heap.size, 5, none⟩ = some (.bool j.urg) := (by simp [World.cell?, hw2]); have hs2 := Nat.le_trans hs1 hb2.size; have hA2' := hA2.sub (qs := []) (fun q hq => (by cases hq))))
          | (go_at_call 18; refine (hA2'.calls (fun b hb => by cases hb) hs2 k2 hent2 rfl (args_j j)).mono ?_; rintro e W3 ⟨v, rfl, hb3, hA3⟩; obtain rfl := hA3.str_of List.mem_cons_self; have hbw3 := below_to hBa hBa.size (below_to hb2 hb2.size hb3); have hI3 := bld_below hI hbw3; have hs3 := Nat.le_trans hs2 hb3.size)
          | (go_at_call 17; refine (Any.Builder_WriteString_k lays166b Tryd.Builder_Extra_105 _ _ _ _ _ hI3 (by rw [Lib.byteCells_length, B8_size]; have := prA_len hwf i; have := line_len hjw; omega) hs3).mono ?_; rintro e W4 ⟨rfl, h1, b1, o1⟩))
        refine ⟨⟨i + 1, hlt, rfl, ?_, ?_, hbw.trans ⟨b1.os.trans hbw3.os, b1.tape.trans hbw3.tape, b1.output.trans hbw3.output, Nat.le_trans hbw3.size b1.size, fun k hk => by rw [b1.block k hk, hbw3.block k (by omega)]⟩, Nat.lt_of_lt_of_le (Nat.lt_of_lt_of_le hsz hbw3.size) b1.size⟩, ?_⟩
        · show (l.take (i + 1)).all Jb.ok = true
          rw [List.take_add_one, hj, List.all_append]
          have : (l.take i).all Jb.ok = true := hok
          rw [this]
          simp [hjo]
        · rw [prA_succ hj, Lib.byteCells_append]
          exact Or.inr h1
        · simp [intOf]; omega
    · have : i = l.length := by omega
      subst this
      go_wp2_with (go_at_call 19; refine (Tryd.Builder_String_any_k _ _ _ _ hI (by omega)).mono ?_; rintro e W2 ⟨rfl, _, b1, _⟩)
      go_ret2
      refine ⟨_, rfl, ?_, hbw.trans ⟨b1.os, b1.tape, b1.output, b1.size, fun k hk => b1.block k hk⟩⟩
      have hall : l.all Jb.ok = true := by
        have : (l.take l.length).all Jb.ok = true := hok
        rwa [List.take_length] at this
      have hpa : prA l l.length = l.flatMap Jb.line := by unfold prA; rw [List.take_length]
      rw [hR, hall, if_pos rfl, ← hpa]
      exact two_rep (.str _) (.int _ _)
end Go.Proofs.YtmnojbkakgfinaaDoor
