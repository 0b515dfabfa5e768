/- THE PURE READING OF A GO FUNCTION, 3: the operations that look at no block do what the pure step says. -/
import Derived.Test.YtflpcgcgeffolaaDoorPgB
import Derived.Laws.StructEq
set_option linter.unusedVariables false
set_option linter.unusedSimpArgs false
namespace PG
open Go Go.RowKit

section inv
variable {g : Addr → Option Value} {v : Value}
theorem Rep.int_inv {k : IntKind} {n : Int} (h : Rep g (.int k n) v) : v = .int k n := by cases h; rfl
theorem Rep.bool_inv {b : Bool} (h : Rep g (.bool b) v) : v = .bool b := by cases h; rfl
theorem Rep.str_inv {s : ByteArray} (h : Rep g (.str s) v) : v = .string s := by cases h; rfl
theorem Rep.agg_inv {cs : List PV} (h : Rep g (.agg cs) v) : ∃ xs : Array Value, v = .agg xs ∧ All2 g cs xs.toList := by
  cases h with
  | agg _ xs hl h1 hr => exact ⟨xs, rfl, by simpa using hl, fun j x hx => h1 j x (by simpa using hx), fun j c x hc hx => hr j c x hc (by simpa using hx)⟩
theorem Rep.tuple_inv {vs : List PV} (h : Rep g (.tuple vs) v) : ∃ xs : Array Value, v = .tuple xs ∧ xs.size = vs.length ∧ ∀ (j : Nat) c x, vs[j]? = some c → xs[j]? = some x → Rep g c x := by
  cases h with
  | tuple _ xs hl hr => exact ⟨xs, rfl, hl, hr⟩
theorem Rep.ref_inv {cs : List PV} (h : Rep g (.ref cs) v) : ∃ (a : Addr) (xs : List Value), v = .pointer (some a) ∧ All2 g cs xs ∧ ∀ (j : Nat) x, xs[j]? = some x → g (a.add j) = some x := by
  cases h with
  | ref a _ xs hl h1 hm hr => exact ⟨a, xs, rfl, ⟨hl, h1, hr⟩, hm⟩
theorem Rep.clo_inv {f : FuncId} {cs : List PV} (h : Rep g (.clo f cs) v) : ∃ xs : Array Value, v = .func (.func f) #[] xs ∧ xs.size = cs.length ∧ ∀ (j : Nat) c x, cs[j]? = some c → xs[j]? = some x → Rep g c x := by
  cases h with
  | clo _ _ xs hl hr => exact ⟨xs, rfl, hl, hr⟩
theorem Rep.lst_inv {n : Nat} {cs : List PV} (h : Rep g (.lst n cs) v) : (v = .slice none 0 0 ∧ n = 0 ∧ cs = []) ∨
    ∃ (a : Addr) (cap : Nat) (xs : List Value), v = .slice (some a) n cap ∧ n ≤ cap ∧ cap ≤ maxLen ∧ All2 g cs xs ∧ ∀ (j : Nat) x, xs[j]? = some x → g (a.add j) = some x := by
  cases h with
  | nil => exact .inl ⟨rfl, rfl, rfl⟩
  | lst a _ cap _ xs hn hc hl h1 hm hr => exact .inr ⟨a, cap, xs, rfl, hn, hc, ⟨hl, h1, hr⟩, hm⟩
theorem All2.agg {cs : List PV} {xs : Array Value} (h : All2 g cs xs.toList) : Rep g (.agg cs) (.agg xs) :=
  .agg cs xs (by simpa using h.1) (fun j x hx => h.2.1 j x (by simpa using hx)) (fun j c x hc hx => h.2.2 j c x hc (by simpa using hx))
theorem All2.at_ {cs : List PV} {xs : List Value} (h : All2 g cs xs) {j : Nat} {c : PV} (hc : cs[j]? = some c) : ∃ x, xs[j]? = some x ∧ Rep g c x ∧ x.oneCell' = true := by
  have hlt := (List.getElem?_eq_some_iff.1 hc).1
  have hx : xs[j]? = some (xs[j]'(by rw [h.1]; exact hlt)) := List.getElem?_eq_getElem _
  exact ⟨_, hx, h.2.2 j c _ hc hx, h.2.1 j _ hx⟩
theorem All2.drop {cs : List PV} {xs : List Value} (h : All2 g cs xs) (n : Nat) : All2 g (cs.drop n) (xs.drop n) :=
  ⟨by simp [h.1], fun j x hx => h.2.1 (n + j) x (by simpa using hx), fun j c x hc hx => h.2.2 (n + j) c x (by simpa using hc) (by simpa using hx)⟩
theorem All2.take {cs : List PV} {xs : List Value} (h : All2 g cs xs) (n : Nat) : All2 g (cs.take n) (xs.take n) := by
  refine ⟨by simp [h.1], fun j x hx => ?_, fun j c x hc hx => ?_⟩
  · rw [List.getElem?_take] at hx
    split at hx
    · exact h.2.1 j x hx
    · cases hx
  · rw [List.getElem?_take] at hx hc
    split at hx
    · rename_i hlt
      simp only [hlt, if_true] at hc
      exact h.2.2 j c x hc hx
    · cases hx
end inv

section
variable {E : PE} {N : Nat} {wk : Gh} {w0 : Fm} {Pr0 : Nat → Nat → Prop} {s : PS} {m : Nat → Value} {Pr : Nat → Nat → Prop} {a : Act} {w : World}

theorem Rel.svPV (h : Rel E N wk w0 Pr0 s m Pr a w) {x : Operand} {p : PV} (hv : PG.svPV (PG.opSV E s.τ x) = some p) : Rep (rd w Pr) p (a.eval x) := by
  cases hs : PG.opSV E s.τ x with
  | none => simp [hs, PG.svPV] at hv
  | some v =>
    cases v <;> simp [hs, PG.svPV] at hv
    subst hv
    exact h.opSV hs

theorem pint_sound {P : Program} {op : BinOp} {k : IntKind} {x y : Int} {p : PV} (t : TypeId) (hp : pint op k x y = some p) (hs : isShift op = false) (g : Addr → Option Value) (w : World) :
    ∃ z, (binOp op t (.int k x) (.int k y)).run P w = .ok z w ∧ Rep g p z := by
  have e1 : (x == y) = decide (x = y) := by rw [Bool.eq_iff_iff]; simp
  have e2 : (x != y) = decide (x ≠ y) := by rw [Bool.eq_iff_iff]; simp
  cases op <;> simp only [isShift, pint, reduceCtorEq, Option.some.injEq] at hp hs
  case quo =>
    split at hp
    · cases hp
    · rename_i h0
      cases hp
      exact ⟨_, by simp [binOp_quo, Op.intDiv, h0], .int _ _⟩
  case rem =>
    split at hp
    · cases hp
    · rename_i h0
      cases hp
      exact ⟨_, by simp [binOp_rem, Op.intDiv, h0], .int _ _⟩
  case eql => subst hp; exact ⟨_, by simp only [binOp_eql, Sem.run_pure, e1], .bool _⟩
  case neq => subst hp; exact ⟨_, by simp only [binOp_neq, Sem.run_pure, e2], .bool _⟩
  all_goals subst hp
  all_goals first
    | exact ⟨_, by simp only [binOp_add, binOp_sub, binOp_mul, Op.intArith]; rfl, .int _ _⟩
    | exact ⟨_, by simp only [binOp_and, binOp_or, binOp_xor, binOp_andNot, intBits_and, intBits_or, intBits_xor, intBits_andNot]; rfl, .int _ _⟩
    | exact ⟨_, by simp only [binOp_lss, binOp_leq, binOp_gtr, binOp_geq]; rfl, .bool _⟩

theorem pshift_sound {P : Program} {op : BinOp} {k yk : IntKind} {x y : Int} {p : PV} (t : TypeId) (hp : pshift op k x y = some p) (g : Addr → Option Value) (w : World) :
    ∃ z, (binOp op t (.int k x) (.int yk y)).run P w = .ok z w ∧ Rep g p z := by
  unfold pshift at hp
  split at hp
  · cases hp
  · rename_i h0
    cases op <;> simp only [reduceCtorEq, Option.some.injEq] at hp
    all_goals subst hp
    · exact ⟨_, by simp only [binOp_shl, Op.shift, h0, if_false]; rfl, .int _ _⟩
    · exact ⟨_, by simp only [binOp_shr, Op.shift, h0, if_false]; rfl, .int _ _⟩

theorem byteArray_beq (a b : ByteArray) : (a.toList == b.toList) = decide (a = b) := by
  rw [← beq_toListBytes, Bool.eq_iff_iff]
  simp only [decide_eq_true_eq]
  constructor
  · intro h
    obtain ⟨x⟩ := a
    obtain ⟨y⟩ := b
    have h' : (x == y) = true := h
    rw [beq_iff_eq] at h'
    rw [h']
  · rintro rfl
    obtain ⟨x⟩ := a
    show (x == x) = true
    simp

theorem pstr_sound {P : Program} {op : BinOp} {x y : ByteArray} {p : PV} (t : TypeId) (hp : pstr op x y = some p) (g : Addr → Option Value) (w : World) :
    ∃ z, (binOp op t (.string x) (.string y)).run P w = .ok z w ∧ Rep g p z := by
  cases op <;> simp only [pstr, reduceCtorEq, Option.some.injEq] at hp
  case add =>
    split at hp
    · rename_i hle
      cases hp
      refine ⟨_, ?_, .str _⟩
      have hle' : ¬ ((x.size + y.size : Nat) : Int) > IntKind.i64.max := by
        simp only [IntKind.max_i64, maxLen] at hle ⊢
        omega
      simp only [binOp, Op.stringOp, hle', if_false]
      rfl
    · cases hp
  case eql => subst hp; exact ⟨_, by simp only [binOp, Op.stringOp, Sem.run_pure, byteArray_beq], .bool _⟩
  case neq =>
    subst hp
    have : (!decide (x = y)) = decide (x ≠ y) := by simp
    exact ⟨.bool (decide (x ≠ y)), by simp only [binOp, Op.stringOp, Sem.run_pure, byteArray_beq, this], .bool _⟩

theorem lk_struct {P : Program} {t : TypeId} {fs : List (Nat × TypeId)} (h : lk P t = .struct fs) : ∃ Fs, P.underlying t = some (.struct Fs) ∧ fs = Fs.toList.map fun f => (f.offset, f.type) := by
  unfold lk lkOf at h
  split at h <;> first | (cases h; done) | skip
  rename_i Fs he
  exact ⟨Fs, he, by cases h; rfl⟩
theorem lk_int {P : Program} {t : TypeId} {k : IntKind} (h : lk P t = .int k) : P.underlying t = some (.int k) := by
  unfold lk lkOf at h
  split at h <;> first | (cases h; done) | skip
  rename_i he
  cases h; exact he
theorem lk_bool {P : Program} {t : TypeId} (h : lk P t = .bool) : P.underlying t = some .bool := by
  unfold lk lkOf at h
  split at h <;> first | (cases h; done) | assumption
theorem lk_str {P : Program} {t : TypeId} (h : lk P t = .str) : P.underlying t = some .string := by
  unfold lk lkOf at h
  split at h <;> first | (cases h; done) | assumption
theorem lk_slice {P : Program} {t e : TypeId} (h : lk P t = .slice e) : P.underlying t = some (.slice e) := by
  unfold lk lkOf at h
  split at h <;> first | (cases h; done) | skip
  rename_i he
  cases h; exact he
theorem lk_array {P : Program} {t e : TypeId} {n : Nat} (h : lk P t = .array n e) : P.underlying t = some (.array n e) := by
  unfold lk lkOf at h
  split at h <;> first | (cases h; done) | skip
  rename_i he
  cases h; exact he

def isAggD : TypeDesc → Bool
  | .struct _ | .array _ _ => true
  | _ => false

theorem run_isAgg {P : Program} {t : TypeId} {d : TypeDesc} (h : P.underlying t = some d) (w : World) :
    (isAgg t).run P w = .ok (isAggD d) w := by
  simp only [isAgg, Sem.run_bind, run_underlying h, Result.andThen_ok]
  cases d <;> rfl

/-- A part of cells reads as the part of the list. -/
theorem part_sound {P : Program} {t : TypeId} {cs : List PV} {off : Nat} {p : PV} {xs : Array Value} {g : Addr → Option Value} (hp : partPV P t cs off = some p) (h : All2 g cs xs.toList) (w : World) :
    ∃ z, (part t xs off).run P w = .ok z w ∧ Rep g p z := by
  have agg : ∀ n, sz P t = some n → (∃ d, P.underlying t = some d ∧ isAggD d = true) → off + n ≤ cs.length → p = .agg ((cs.drop off).take n) →
      ∃ z, (part t xs off).run P w = .ok z w ∧ Rep g p z := by
    intro n hn ⟨d, hd, hda⟩ hle hpe
    unfold sz at hn
    simp only [Option.map_eq_some_iff] at hn
    obtain ⟨i, hi, rfl⟩ := hn
    refine ⟨.agg (xs.extract off (off + i.size)), by simp [part, run_isAgg hd, hda, Go.sizeOf, typeInfo, hi], ?_⟩
    subst hpe
    refine All2.agg ?_
    have : (xs.extract off (off + i.size)).toList = (xs.toList.drop off).take i.size := by
      simp [List.take_drop]
    rw [this]
    exact (h.drop off).take i.size
  unfold partPV at hp
  split at hp
  · rename_i hl
    obtain ⟨Fs, hu, _⟩ := lk_struct hl
    split at hp
    · rename_i n hn
      split at hp
      · rename_i hle
        cases hp
        exact agg n hn ⟨_, hu, rfl⟩ hle rfl
      · cases hp
    · cases hp
  · rename_i hl
    have hu := lk_array hl
    split at hp
    · rename_i n hn
      split at hp
      · rename_i hle
        cases hp
        exact agg n hn ⟨_, hu, rfl⟩ hle rfl
      · cases hp
    · cases hp
  · cases hp
  · rename_i h1 h2 h3
    obtain ⟨x, hx, hr, _⟩ := h.at_ hp
    have hu : ∃ d, P.underlying t = some d ∧ isAggD d = false := by
      cases hu : P.underlying t with
      | none => exact absurd (by simp [lk, lkOf, hu]) h3
      | some d =>
        refine ⟨d, rfl, ?_⟩
        cases d <;> first | rfl | skip
        · rename_i n e; exact (h2 n e (by simp only [lk, lkOf, hu])).elim
        · rename_i fs; exact (h1 (fs.toList.map fun f => (f.offset, f.type)) (by simp only [lk, lkOf, hu])).elim
    obtain ⟨d, hd, hda⟩ := hu
    have hx' : xs[off]? = some x := by simpa using hx
    exact ⟨x, by simp [part, run_isAgg hd, hda, hx'], hr⟩

theorem eqCell_sound {P : Program} {g : Addr → Option Value} {c d : PV} {x y : Value} {r : Bool} {t : TypeId} (hc : Rep g c x) (hd : Rep g d y) (he : eqCell P t c d = some r) (D : Nat) (w : World) :
    (Op.equalIn (D + 1) t x y).run P w = .ok r w ∧ ∃ k, P.underlying t = some k ∧ isAggD k = false := by
  unfold eqCell at he
  split at he
  · split at he
    · rename_i k' hk
      split at he
      · rename_i hkk
        cases he; cases hc; cases hd; subst hkk
        refine ⟨?_, _, lk_int hk, rfl⟩
        rw [run_equalIn_int w D t _ _ _ _ (lk_int hk)]
        rw [show ∀ (a b : Int), (a == b) = decide (a = b) from fun a b => by rw [Bool.eq_iff_iff]; simp]
      · cases he
    · cases he
  · split at he
    · rename_i hk
      cases he; cases hc; cases hd
      exact ⟨run_equalIn_bool' w D t _ _ (lk_bool hk), _, lk_bool hk, rfl⟩
    · cases he
  · split at he
    · rename_i hk
      cases he; cases hc; cases hd
      refine ⟨?_, _, lk_str hk, rfl⟩
      rw [run_equalIn_string w D t _ _ (lk_str hk), byteArray_beq]
    · cases he
  · cases he

theorem eqFields_sound {P : Program} {g : Addr → Option Value} (D : Nat) (w : World) {xs ys : Array Value} : ∀ (fs : List Field) (i : Nat) (cs ds : List PV) (r : Bool), flatFs i fs = true →
    All2 g cs (xs.toList.drop i) → All2 g ds (ys.toList.drop i) → eqCells P (fs.map (·.type)) cs ds = some r → (Op.eqFields (D + 1) xs ys fs).run P w = .ok r w
  | [], i, cs, ds, r, _, _, _, he => by
    simp only [List.map_nil, eqCells, Option.some.injEq] at he
    subst he
    rfl
  | f :: fs, i, cs, ds, r, hf, hx, hy, he => by
    simp only [flatFs, Bool.and_eq_true, bne_iff_ne, ne_eq, beq_iff_eq] at hf
    obtain ⟨⟨hn, ho⟩, hf'⟩ := hf
    cases cs with
    | nil => simp [eqCells] at he
    | cons c cs =>
    cases ds with
    | nil => simp [eqCells] at he
    | cons d ds =>
    simp only [List.map_cons, eqCells] at he
    split at he
    · rename_i r1 r2 h1 h2
      cases he
      obtain ⟨x, hxe, hxr, _⟩ := hx.at_ (j := 0) rfl
      obtain ⟨y, hye, hyr, _⟩ := hy.at_ (j := 0) rfl
      obtain ⟨heq, k, hk, hka⟩ := eqCell_sound hxr hyr h1 D w
      have hx0 : xs[i]? = some x := by simpa using hxe
      have hy0 : ys[i]? = some y := by simpa using hye
      have px : (part f.type xs f.offset).run P w = .ok x w := by rw [ho]; simp [part, run_isAgg hk, hka, hx0]
      have py : (part f.type ys f.offset).run P w = .ok y w := by rw [ho]; simp [part, run_isAgg hk, hka, hy0]
      have ih := eqFields_sound D w fs (i + 1) cs ds r2 hf' (by have := hx.drop 1; simpa [Nat.add_comm] using this) (by have := hy.drop 1; simpa [Nat.add_comm] using this) h2
      simp only [Op.eqFields, hn, not_false_eq_true, ne_eq, if_true, Sem.run_bind, px, py, heq, Result.andThen_ok, Sem.run_ite]
      cases r1
      · simp
      · simpa using ih
    · cases he

theorem eqAgg_sound {P : Program} {g : Addr → Option Value} {t : TypeId} {cs ds : List PV} {xs ys : Array Value} {r : Bool} (hf : flat P t = true) (hs : isStruct P t = true)
    (hx : All2 g cs xs.toList) (hy : All2 g ds ys.toList) (he : eqCells P (fieldTypes P t) cs ds = some r) (w : World) : (Op.equalIn 10000 t (.agg xs) (.agg ys)).run P w = .ok r w := by
  unfold flat at hf
  simp only [Bool.and_eq_true, Bool.not_eq_true'] at hf
  obtain ⟨⟨h1, h2⟩, _⟩ := hf
  unfold isStruct at hs
  split at hs
  · rename_i fs hl
    obtain ⟨Fs, hu, hfs⟩ := lk_struct hl
    have hfo : P.fieldsOf t = Fs := by simp [Program.fieldsOf, hu]
    have hft : fieldTypes P t = (P.fieldsOf t).toList.map (·.type) := by
      simp only [fieldTypes, hl, hfo, hfs, List.map_map]
      rfl
    rw [run_equalIn_struct w 9999 t xs ys (by rw [hfo]; exact hu) h1]
    exact eqFields_sound 9998 w _ 0 cs ds r h2 (by simpa using hx) (by simpa using hy) (by rw [← hft]; exact he)
  · cases hs

theorem pbin_sound {P : Program} {op : BinOp} {t : TypeId} {p q r : PV} {x y : Value} {g : Addr → Option Value} (hx : Rep g p x) (hy : Rep g q y) (hp : pbin P op t p q = some r) (X Y : Operand) (w : World) :
    ∃ z, (do eqGuard op t X Y x y; binOp op t x y : Sem Value).run P w = .ok z w ∧ Rep g r z := by
  unfold pbin at hp
  split at hp
  · rename_i k a k' b
    cases hx; cases hy
    simp only [eqGuard_at_int, pure_bind]
    split at hp
    · exact pshift_sound t hp g w
    · rename_i hs
      split at hp
      · rename_i hk; subst hk; exact pint_sound t hp (by simpa using hs) g w
      · cases hp
  · cases hx; cases hy
    simp only [eqGuard_at_string, pure_bind]
    exact pstr_sound t hp g w
  · rename_i a b
    cases hx; cases hy
    simp only [eqGuard_at_bool, pure_bind]
    split at hp
    · split at hp
      · rename_i hl
        cases hp
        refine ⟨.bool (a == b), ?_, .bool _⟩
        simp only [binOp]
        simp [Op.equal, Op.maxDepth, run_equalIn_bool' w 9999 t a b (lk_bool hl)]
      · cases hp
    · split at hp
      · rename_i hl
        cases hp
        refine ⟨.bool (a != b), ?_, .bool _⟩
        simp only [binOp]
        simp [Op.equal, Op.maxDepth, run_equalIn_bool' w 9999 t a b (lk_bool hl), bne]
      · cases hp
    · cases hp
  · obtain ⟨xs, rfl, ax⟩ := hx.agg_inv
    obtain ⟨ys, rfl, ay⟩ := hy.agg_inv
    split at hp
    · rename_i hf
      have hg : P.eqGuardType P.depth t = false := by
        have := hf.1; unfold flat at this
        simp only [Bool.and_eq_true, Bool.not_eq_true'] at this
        exact this.2
      split at hp
      · simp only [Option.map_eq_some_iff] at hp
        obtain ⟨b, hb, rfl⟩ := hp
        refine ⟨.bool b, ?_, .bool _⟩
        simp only [Sem.run_bind, run_eqGuard_agg w .eql t X Y xs ys hg, Result.andThen_ok, run_eql_struct, eqAgg_sound hf.1 hf.2 ax ay hb w]
      · simp only [Option.map_eq_some_iff] at hp
        obtain ⟨b, hb, rfl⟩ := hp
        refine ⟨.bool (!b), ?_, .bool _⟩
        simp only [Sem.run_bind, run_eqGuard_agg w .neq t X Y xs ys hg, Result.andThen_ok, run_neq_struct, eqAgg_sound hf.1 hf.2 ax ay hb w]
      · cases hp
    · cases hp
  · cases hp

theorem pun_sound {P : Program} {op : UnOp} {p q : PV} {x : Value} {g : Addr → Option Value} (hq : Rep g q x) (hp : pun op q = some p) (w : World) :
    ∃ z, (Op.unary op x).run P w = .ok z w ∧ Rep g p z := by
  unfold pun at hp
  split at hp
  · split at hp
    · cases hp; cases hq; exact ⟨_, by simp only [Op.unary]; rfl, .bool _⟩
    · cases hp
  · split at hp
    · cases hp; cases hq; exact ⟨_, by simp only [Op.unary, Op.intArith]; rfl, .int _ _⟩
    · cases hp; cases hq; exact ⟨_, by simp only [Op.unary, intBits_xor]; rfl, .int _ _⟩
    · cases hp
  · cases hp

theorem Rel.movable (h : Rel E N wk w0 Pr0 s m Pr a w) {x : Operand} {v : SV} (hv : PG.opSV E s.τ x = some v) : SRep (rd w Pr) m v (a.eval x) := h.opSV hv

theorem eqGuard_slice {op : BinOp} {t : TypeId} {X Y : Operand} {a b : Option Addr} {n c n' c' : Nat} : eqGuard op t X Y (.slice a n c) (.slice b n' c') = pure () := by
  cases op <;> rfl

theorem equalIn_slice_nil {P : Program} (w : World) (d : Nat) (t e : TypeId) (a : Option Addr) (l c : Nat) (h : P.underlying t = some (.slice e)) :
    (Op.equalIn (d + 1) t (.slice a l c) (.slice none 0 0)).run P w = .ok a.isNone w := by
  cases a <;> simp [Op.equalIn, run_underlying h]

theorem nilCmp_sound (h : Rel E N wk w0 Pr0 s m Pr a w) {op : BinOp} {t : TypeId} {x y : Operand} {v : SV} (hs : nilCmp E.P op t (PG.opSV E s.τ x) (PG.opSV E s.τ y) = some v) :
    ∃ b, v = .val (.bool b) ∧ (do eqGuard op t x y (a.eval x) (a.eval y); binOp op t (a.eval x) (a.eval y) : Sem Value).run E.P w = .ok (.bool b) w := by
  unfold nilCmp at hs
  split at hs
  · rename_i e n cs hl hx hy
    have h1 := (h.opSV hx : Rep _ _ _)
    have h2 : a.eval y = .slice none 0 0 := h.opSV hy
    have hl' := lk_slice hl
    rw [h2]
    generalize a.eval x = z at h1
    cases h1 with
    | nn ad _ cap _ _ =>
      simp only [eqGuard_slice, pure_bind]
      split at hs
      · cases hs; exact ⟨false, rfl, by simp only [binOp]; simp [Op.equal, Op.maxDepth, equalIn_slice_nil w 9999 t e (some ad) n cap hl']⟩
      · cases hs; exact ⟨true, rfl, by simp only [binOp]; simp [Op.equal, Op.maxDepth, equalIn_slice_nil w 9999 t e (some ad) n cap hl']⟩
      · cases hs
  · rename_i e hl hx hy
    have h1 : a.eval x = .slice none 0 0 := h.opSV hx
    have h2 : a.eval y = .slice none 0 0 := h.opSV hy
    have hl' := lk_slice hl
    rw [h2, h1]
    simp only [eqGuard_slice, pure_bind]
    split at hs
    · cases hs; exact ⟨true, rfl, by simp only [binOp]; simp [Op.equal, Op.maxDepth, equalIn_slice_nil w 9999 t e none 0 0 hl']⟩
    · cases hs; exact ⟨false, rfl, by simp only [binOp]; simp [Op.equal, Op.maxDepth, equalIn_slice_nil w 9999 t e none 0 0 hl']⟩
    · cases hs
  · cases hs

theorem stepA_sound (h : Rel E N wk w0 Pr0 s m Pr a w) {o : Oper} {v : SV} (hs : stepA E o.op (PG.opSV E s.τ) = some v) :
    ∃ x, (execOp a.eval o).run E.P w = .ok (.value x) w ∧ SRep (rd w Pr) m v x := by
  obtain ⟨ds, op, type, pos, after, guard⟩ := o
  cases op <;> simp only [stepA, reduceCtorEq] at hs
  case move x =>
    refine ⟨a.eval x, by simp [execOp], h.opSV ?_⟩
    split at hs
    · cases hs
    · exact hs
  case assign x => exact ⟨a.eval x, by simp [execOp], h.opSV hs⟩
  case pick c x y =>
    split at hs
    · rename_i hc
      split at hs
      · rename_i u hx
        cases hs
        have := (h.svPV hc).bool_inv
        exact ⟨a.eval x, by simp [execOp, this, asBool], h.opSV hx⟩
      · cases hs
    · rename_i hc
      split at hs
      · rename_i u hx
        cases hs
        have := (h.svPV hc).bool_inv
        exact ⟨a.eval y, by simp [execOp, this, asBool], h.opSV hx⟩
      · cases hs
    · cases hs
  case binOp op t x y yt =>
    split at hs
    · rename_i p q hp hq
      simp only [Option.map_eq_some_iff] at hs
      obtain ⟨r, hr, rfl⟩ := hs
      obtain ⟨z, hz, hzr⟩ := pbin_sound (h.svPV hp) (h.svPV hq) hr x y w
      refine ⟨z, ?_, hzr⟩
      simp only [execOp]
      rw [Sem.run_bind, hz]
      rfl
    · obtain ⟨b, rfl, hz⟩ := nilCmp_sound h hs (w := w)
      refine ⟨.bool b, ?_, .bool b⟩
      simp only [execOp]
      rw [Sem.run_bind, hz]
      rfl
  case unOp op t x =>
    split at hs
    · rename_i p hp
      simp only [Option.map_eq_some_iff] at hs
      obtain ⟨r, hr, rfl⟩ := hs
      obtain ⟨z, hz, hzr⟩ := pun_sound (h.svPV hp) hr w (P := E.P)
      refine ⟨z, ?_, hzr⟩
      simp only [execOp]
      rw [Sem.run_bind, hz]
      rfl
    · cases hs
  case convert src dst x =>
    have main : ∀ {p : PV} {d : TypeDesc}, PG.svPV (PG.opSV E s.τ x) = some p → E.P.underlying src = some d → (pconv E.P dst p).map SV.val = some v →
        ((∃ k, d = .int k) ∨ d = .string) → ∃ x_1, (execOp a.eval ⟨ds, .convert src dst x, type, pos, after, guard⟩).run E.P w = .ok (.value x_1) w ∧ SRep (rd w Pr) m v x_1 := by
      intro p d hp hu hm hd
      simp only [Option.map_eq_some_iff] at hm
      obtain ⟨r, hr, rfl⟩ := hm
      have hrep := h.svPV hp
      unfold pconv at hr
      split at hr
      · rename_i k' n
        split at hr
        · rename_i k hk
          cases hr
          refine ⟨.int k (k.wrap n), ?_, .int _ _⟩
          have := hrep.int_inv
          simp [execOp, this, Go.convert, run_underlying hu, run_underlying (lk_int hk), Conv.intToInt]
        · cases hr
      · split at hr
        · rename_i hk
          cases hr
          refine ⟨.string _, ?_, .str _⟩
          have := hrep.str_inv
          rcases hd with ⟨k, rfl⟩ | rfl <;> simp [execOp, this, Go.convert, run_underlying hu, run_underlying (lk_str hk)]
        · cases hr
      · cases hr
    split at hs
    · rename_i p k hp hl
      exact main hp (lk_int hl) hs (.inl ⟨_, rfl⟩)
    · rename_i p hp hl
      exact main hp (lk_str hl) hs (.inr rfl)
    · cases hs
  case extract x i =>
    split at hs
    · rename_i vs hx
      simp only [Option.map_eq_some_iff] at hs
      obtain ⟨r, hr, rfl⟩ := hs
      obtain ⟨xs, he, hl, hrep⟩ := (h.svPV hx).tuple_inv
      have hlt := (List.getElem?_eq_some_iff.1 hr).1
      have hxi : xs[i]? = some (xs[i]'(by omega)) := Array.getElem?_eq_getElem _
      exact ⟨_, by simp [execOp, he, Instr.extract, hxi], hrep i r _ hr hxi⟩
    · cases hs
  case field t x i =>
    split at hs
    · rename_i cs fs hx hl
      obtain ⟨Fs, hu, rfl⟩ := lk_struct hl
      split at hs
      · rename_i off ft hf
        simp only [Option.map_eq_some_iff] at hs
        obtain ⟨r, hr, rfl⟩ := hs
        obtain ⟨xs, he, hall⟩ := (h.svPV hx).agg_inv
        obtain ⟨z, hz, hzr⟩ := part_sound hr hall w
        refine ⟨z, ?_, hzr⟩
        simp only [List.getElem?_map, Option.map_eq_some_iff, Prod.mk.injEq] at hf
        obtain ⟨f, hfi, rfl, rfl⟩ := hf
        have hfi' : Fs[i]? = some f := by simpa using hfi
        simp only [execOp, Instr.field, he, Sem.run_bind, run_underlying hu, Result.andThen_ok, hfi', asAgg, Sem.run_pure, hz]
      · cases hs
    · cases hs
  case fieldAddr t x i =>
    split at hs
    · rename_i fs hl
      obtain ⟨Fs, hu, rfl⟩ := lk_struct hl
      split at hs
      · rename_i off ft hf
        simp only [List.getElem?_map, Option.map_eq_some_iff, Prod.mk.injEq] at hf
        obtain ⟨f, hfi, rfl, rfl⟩ := hf
        have hfi' : Fs[i]? = some f := by simpa using hfi
        split at hs
        · cases hs
        · rename_i n hn0 hn
          have hsz : (Go.sizeOf f.type).run E.P w = .ok n w := by
            unfold sz at hn
            simp only [Option.map_eq_some_iff] at hn
            obtain ⟨j, hj, rfl⟩ := hn
            simp [Go.sizeOf, typeInfo, hj]
          have hn0' : ¬ n = 0 := fun e => hn0 (by subst e; rfl)
          have run : ∀ ad : Addr, a.eval x = .pointer (some ad) → (execOp a.eval ⟨ds, .fieldAddr t x i, type, pos, after, guard⟩).run E.P w = .ok (.value (.pointer (some (ad.add f.offset)))) w := by
            intro ad he
            simp only [execOp, Instr.fieldAt, he, Sem.run_bind, run_underlying hu, Result.andThen_ok, hfi', Instr.sureAddr, Sem.run_pure, Go.fieldPlace, hsz, hn0', if_false]
          split at hs
          · rename_i k o hx
            cases hs
            have hr := h.opSV hx
            obtain ⟨b, hb, he⟩ := hr
            refine ⟨_, run _ he, b, hb, ?_⟩
            rw [addr_add]
          · rename_i cs hx
            cases hs
            obtain ⟨ad, xs, he, hall, hm⟩ := (Rep.ref_inv (h.opSV hx : Rep _ _ _))
            refine ⟨_, run _ he, ?_⟩
            refine Rep.ref _ _ (xs.drop f.offset) (hall.drop _).1 (hall.drop _).2.1 (fun j y hy => ?_) (hall.drop _).2.2
            rw [add_add]
            exact hm _ y (by simpa using hy)
          · cases hs
        · cases hs
      · cases hs
    · cases hs
  case index t x i =>
    split at hs
    · rename_i st k n hx hi hl
      split at hs
      · rename_i hn
        cases hs
        have e1 := (h.svPV hx).str_inv
        have e2 := (h.svPV hi).int_inv
        refine ⟨.int .u8 (st[n.toNat]'hn.2).toNat, ?_, .int _ _⟩
        have hg : st[n.toNat]? = some (st[n.toNat]'hn.2) := getElem?_pos st _ hn.2
        simp [execOp, Instr.index, e1, e2, asIntOf, run_underlying (lk_str hl), hn.1, hg]
      · cases hs
    · cases hs
end
end PG
