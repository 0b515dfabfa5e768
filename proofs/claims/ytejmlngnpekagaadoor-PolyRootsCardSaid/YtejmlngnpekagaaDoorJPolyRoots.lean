/- For every input that reads as data, with the listed table of math/bits as the program's text lays it, the law PolyRoots returns true and leaves its arguments as they were: the row, and its tied card. -/
import Derived.Test.YtejmlngnpekagaaDoorLPolyRoots
import Derived.Test.YtejmlngnpekagaaDoorG7
import Derived.Test.YtejmlngnpekagaaDoorTie
import Derived.Test.YtejmlngnpekagaaDoorCards
open Go PG Go.Proofs Go.RowKit Go.ChangeShapes Go.WideShapes Go.ChangeAt
set_option maxRecDepth 100000
set_option linter.unusedSimpArgs false
set_option linter.unusedVariables false
namespace Go.Proofs.YtejmlngnpekagaaDoor

theorem own_PolyRoots : ownKnob Tryd.prog.godebug = none := by kernel_rfl
theorem door_PolyRoots (os : Os) (args : Array Value) : laidMetH Tryd.prog [("math/bits.deBruijn64tab", Rows.laid_math_bits_deBruijn64tab)] ((World.doorLaid Tryd.prog 14 os).forCall (fun _ _ => 0) ⟨#[], args, []⟩).memory :=
  laidMetH_of_parts3 (fuel := 8) (laidMet_of_run' 8 (by kernel_rfl) (by kernel_rfl)) (by kernel_rfl) (by kernel_rfl)

theorem fn_PolyRoots (H : Type) : ∀ ds : List (DataW H), ds.length = (Tryd.f4).params.toList.length → Rows.polyRootsSpec.fn H ds = { results := [.lit (.bool true)], args := ds } := by
  intro ds h
  have h' : ds.length = 4 := h
  match ds, h' with
  | [d1, d2, d3, d4], _ => rfl

theorem lifted_PolyRoots (os : Os) (started : os.Started) (H : Type) (enc : TypeId × Value → H) :
    ReturnsInHanded {} Tryd.checked os 4 .any (fun w args => (Rows.polyRootsSpec.pre enc Tryd.prog Tryd.f4 [] false w args ∧ laidMetH Tryd.prog [("math/bits.deBruijn64tab", Rows.laid_math_bits_deBruijn64tab)] w) ∧ sizedMet enc Tryd.prog Tryd.f4 (OpenSpec.ofChange Rows.polyRootsSpec) false w args)
      (Rows.polyRootsSpec.post enc Tryd.prog Tryd.f4 false true false false) := by
  refine returnsInHanded_of_change_and (C := Tryd.checked) (X := fun w _ => laidMetH Tryd.prog [("math/bits.deBruijn64tab", Rows.laid_math_bits_deBruijn64tab)] w) (fun _ _ _ hh h => h.of_heap hh) own_PolyRoots started (by kernel_rfl) Tryd.func4
    (ChangeSpec.witness_shaped (enc := enc) (C := Tryd.checked) (os := os) (X := fun w _ => laidMetH Tryd.prog [("math/bits.deBruijn64tab", Rows.laid_math_bits_deBruijn64tab)] w) false (World.doorLaid Tryd.prog 14 os) #[.slice none 0 0, .int .u64 0, .int .u64 0, .int .i64 0] 8 rfl (World.shaped_of_RefB (by kernel_rfl) (by kernel_rfl)) (by kernel_rfl) (by kernel_rfl) (by kernel_rfl) (door_PolyRoots os _)) ?_
  intro W base args ds gs before hval hW _ _ hL _
  exact law_contract (E := E) (f := 4) (fn := Tryd.f4) (s := Rows.polyRootsSpec) (tb := 4) (Qs := [qU64s, qU64, qU64, qInt]) (by kernel_rfl) (by kernel_rfl) rfl (by kernel_rfl) rfl fn_PolyRoots Tryd.func4 (by decide +kernel) (by kernel_rfl)
    (fun w => ⟨a_u64s w (e := 22) (by kernel_rfl) (by kernel_rfl) (by kernel_rfl), a_u64 w (by kernel_rfl), a_u64 w (by kernel_rfl), a_int w (by kernel_rfl), trivial⟩) law_PolyRoots hval hW (globals_met hL)

theorem row_PolyRoots : Rows.PolyRootsSaid :=
  OpenClaim.holds_of_wide 4 Tryd.f4 rfl rfl rfl rfl rfl rfl rfl ⟨rfl, rfl, rfl, rfl, rfl⟩ rfl rfl rfl rfl rfl (by kernel_rfl) Tryd.func4 (by kernel_rfl)
    (of_decide_eq_true (by kernel_rfl)) (by unfold Func.isWrapper; first | (rw [if_pos (by decide +kernel)]; kernel_rfl) | (rw [if_neg (by decide +kernel)]; exact ⟨rfl, rfl⟩))
    (fun os started H enc _ => lifted_PolyRoots os started H enc)

theorem card_PolyRoots : Rows.PolyRootsCardSaid :=
  Claim7.holds_tied_plain_at .later [] [.data] true (true, "593d3480d6cd304ee3ca13f6bab0952fffbe6387e802eca1670af46709418529") false
    row_PolyRoots (fun _ h => by cases h) (by kernel_rfl) (fun _ h => by cases h) polyRoots_row_tie rfl ⟨rfl, rfl⟩ (by kernel_rfl) rfl
    (fun f fn hf hfn => by
      obtain rfl : f = 4 := Option.some.inj ((show Tryd.prog.funcNamed "planimeter/planimeterlaw35.PolyRoots" = some 4 by kernel_rfl).symm.trans hf) |>.symm
      obtain rfl : fn = Tryd.f4 := (Option.some.inj (Tryd.func4.symm.trans hfn)).symm
      exact ⟨by kernel_rfl, fun j t ht => by
        rw [Tryd.params4] at ht
        have hm : t ∈ [23, 22, 22, 3] := by simpa using Array.mem_of_getElem? ht
        have hall : ([23, 22, 22, 3].all fun u => !Tryd.prog.wantsStandIn u) = true := by kernel_rfl
        exact (show Tryd.prog.wantsStandIn t = false by simpa using List.all_eq_true.1 hall t hm)⟩)
    (by kernel_rfl)
#print axioms card_PolyRoots
end Go.Proofs.YtejmlngnpekagaaDoor
