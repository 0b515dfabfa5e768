/- strconv.ParseUint at base 16, every text. -/
import Derived.Test.YtmnojbkakgfinaaDoorJbV
import Derived.Test.YtmnojbkakgfinaaDoorStrJ
import Derived.Shelf.Strconv.ToErrorRange
import Derived.Shelf.Strconv.ToError
open Go PG Go.Proofs Go.RowKit
set_option maxRecDepth 100000
set_option linter.unusedSimpArgs false
set_option linter.unusedVariables false
namespace Go.Proofs.YtmnojbkakgfinaaDoor

/-- A variable of an interface's type: its cell. -/
theorem ifc_cell {w : World} {Pr : Nat → Nat → Prop} {g : Nat} (h : GRep (rd w Pr) (.ref [.ifc]) (.pointer (some ⟨g, 0, none⟩)) (Whole w g 1)) : ∃ tp p, w.cell? ⟨g, 0, none⟩ = some (.iface tp p) := by
  obtain ⟨hr, _, vs, t, fr, hb, hl⟩ := h
  obtain ⟨a, xs, ha, hall, hm⟩ := hr.ref_inv
  cases ha
  obtain ⟨x, hx, hxr, _⟩ := hall.at_ (j := 0) (c := .ifc) rfl
  have h1 := (rd_some.1 (hm 0 x hx)).2
  rw [addr_add, Nat.zero_add] at h1
  cases hxr with
  | ifc tp p => exact ⟨tp, p, h1⟩
theorem s_toError {k : Int} (hk : k = 1 ∨ k = 2) (fn l : List UInt8) (hl : l.length ≤ 100000) : PC E 40 [TX fn, TX l, .int .i64 16, .int .i64 64, .ifv 87 .i64 k] .any := by
  intro w Pr vs hPr hG hsz0 hreps
  have hsz : vs.size = 5 := hsz0
  have h0 := (hreps 0 _ _ rfl (Array.getElem?_eq_getElem (by omega)) : Rep _ (.str _) _).str_inv
  have h1 := (hreps 1 _ _ rfl (Array.getElem?_eq_getElem (by omega)) : Rep _ (.str _) _).str_inv
  have h2 := (hreps 2 _ _ rfl (Array.getElem?_eq_getElem (by omega)) : Rep _ (.int _ _) _).int_inv
  have h3 := (hreps 3 _ _ rfl (Array.getElem?_eq_getElem (by omega)) : Rep _ (.int _ _) _).int_inv
  have h4 := (hreps 4 _ _ rfl (Array.getElem?_eq_getElem (by omega)) : Rep _ (.ifv _ _ _) _)
  have h4' : vs[4]'(by omega) = .iface 87 (.int .i64 k) := by
    generalize vs[4]'(by omega) = z at h4
    cases h4
    rfl
  obtain rfl : vs = #[.string (B8 fn), .string (B8 l), .int .i64 16, .int .i64 64, .iface 87 (.int .i64 k)] := by
    refine Array.ext (by simpa using hsz) fun i hi hj => ?_
    have hi5 : i = 0 ∨ i = 1 ∨ i = 2 ∨ i = 3 ∨ i = 4 := by omega
    rcases hi5 with rfl | rfl | rfl | rfl | rfl <;> simp [h0, h1, h2, h3, h4']
  have hent : ∀ (vs : Array Value) (w : World), (callFunc 40 vs).run E.P w = .ok (.enter 40 vs) w := enters_of Tryd.func40 (by kernel_rfl) rfl
  rw [hent]
  refine ⟨rfl, ?_⟩
  obtain ⟨tr, pr, hr⟩ := ifc_cell (hG 2 ifcT rfl)
  obtain ⟨ts, ps, hs⟩ := ifc_cell (hG 1 ifcT rfl)
  have hbz : (B8 l).size = l.length := B8_size l
  rcases hk with rfl | rfl
  · refine (Any.strconv_toError_range { Tryd.laysC174 with } (B8 fn) (B8 l) 16 64 _ w (by rw [hbz]; omega) hr (.inr ⟨_, _, rfl⟩)).mono ?_
    rintro e w' ⟨N, rfl, -, -, hb⟩
    exact ⟨_, rfl, .any _, hb⟩
  · refine (Any.strconv_toError_syntax { Tryd.laysC174 with } (B8 fn) (B8 l) 16 64 _ w (by rw [hbz]; omega) hs (.inr ⟨_, _, rfl⟩)).mono ?_
    rintro e w' ⟨N, rfl, -, -, hb⟩
    exact ⟨_, rfl, .any _, hb⟩
def puE : PV → PV
  | .nif => .nif
  | _ => .any
theorem puR_err : ∀ (l : List UInt8) (n : Nat), (puR n l).2 = .nif ∨ (puR n l).2 = eSyn ∨ (puR n l).2 = eRng
  | [], n => .inl rfl
  | c :: r, n => by
    rw [puR]
    split
    · exact .inr (.inl rfl)
    · split
      · exact .inr (.inl rfl)
      · split
        · exact .inr (.inr rfl)
        · exact puR_err r _
theorem puX_err (l : List UInt8) : (puX l).2 = .nif ∨ (puX l).2 = eSyn ∨ (puX l).2 = eRng := by
  unfold puX
  split
  · exact .inr (.inl rfl)
  · exact puR_err l 0
theorem und_err {P : Program} (w : World) {ms : Array (String × TypeId)} {t tx : TypeId} {v : Value} (ht : P.underlying t = some (.interface ms)) (y : Operand) :
    (do eqGuard .neq t y (.const .nilIface) (.iface tx v) .nilIface; binOp .neq t (.iface tx v) .nilIface : Sem Value).run P w = .ok (.bool true) w := by
  have h : ∀ d : Nat, (Op.equalIn (d + 1) t (.iface tx v) .nilIface).run P w = .ok false w := fun d => by
    simp [Op.equalIn, run_underlying ht]
  simp only [binOp]
  simp [eqGuard, Op.equal, Op.maxDepth, h 9999]
theorem und_nil {P : Program} (w : World) {ms : Array (String × TypeId)} {t : TypeId} (ht : P.underlying t = some (.interface ms)) (y : Operand) :
    (do eqGuard .neq t y (.const .nilIface) .nilIface .nilIface; binOp .neq t .nilIface .nilIface : Sem Value).run P w = .ok (.bool false) w := by
  have h : ∀ d : Nat, (Op.equalIn (d + 1) t .nilIface .nilIface).run P w = .ok true w := fun d => by
    simp [Op.equalIn, run_underlying ht]
  simp only [binOp]
  simp [eqGuard, Op.equal, Op.maxDepth, h 9999]
end Go.Proofs.YtmnojbkakgfinaaDoor
