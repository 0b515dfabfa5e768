import Derived.Test.YtfkgaldbcngliaaGreatDoorLWholeStart
import Derived.Test.YtfkgaldbcngliaaGreatDoorGZ
import Derived.Test.YtfkgaldbcngliaaGreatDoorTie
import Derived.Test.YtfkgaldbcngliaaGreatDoorCards
open Go PG Go.Proofs Go.RowKit Go.ChangeShapes Go.WideShapes Go.ChangeAt
set_option maxRecDepth 100000
set_option linter.unusedSimpArgs false
set_option linter.unusedVariables false
namespace Go.Proofs.YtfkgaldbcngliaaGreatDoor
theorem own_WholeStart : ownKnob Tryz.prog.godebug = none := by kernel_rfl
theorem door_WholeStart (os : Os) (args : Array Value) : laidMetH Tryz.prog [("math/bits.deBruijn64tab", Rows.laid_math_bits_deBruijn64tab)] ((World.doorLaid Tryz.prog 14 os).forCall (fun _ _ => 0) ⟨#[], args, []⟩).memory :=
  laidMetH_of_parts3 (fuel := 8) (laidMet_of_run' 8 (by kernel_rfl) (by kernel_rfl)) (by kernel_rfl) (by kernel_rfl)
theorem fn_WholeStart (H : Type) : ∀ ds : List (DataW H), ds.length = (Tryz.f6).params.toList.length → Rows.wholeStartSpec.fn H ds = { results := [.lit (.bool true)], args := ds } := by
  intro ds h
  have h' : ds.length = 3 := h
  match ds, h' with
  | [d1, d2, d3], _ => rfl
theorem lifted_WholeStart (os : Os) (started : os.Started) (H : Type) (enc : TypeId × Value → H) :
    ReturnsInHanded {} Tryz.checked os 6 .any (fun w args => (Rows.wholeStartSpec.pre enc Tryz.prog Tryz.f6 [] false w args ∧ laidMetH Tryz.prog [("math/bits.deBruijn64tab", Rows.laid_math_bits_deBruijn64tab)] w) ∧ sizedMet enc Tryz.prog Tryz.f6 (OpenSpec.ofChange Rows.wholeStartSpec) false w args)
      (Rows.wholeStartSpec.post enc Tryz.prog Tryz.f6 false true false false) := by
  refine returnsInHanded_of_change_and (C := Tryz.checked) (X := fun w _ => laidMetH Tryz.prog [("math/bits.deBruijn64tab", Rows.laid_math_bits_deBruijn64tab)] w) (fun _ _ _ hh h => h.of_heap hh) own_WholeStart started (by kernel_rfl) Tryz.func6
    (ChangeSpec.witness_shaped (enc := enc) (C := Tryz.checked) (os := os) (X := fun w _ => laidMetH Tryz.prog [("math/bits.deBruijn64tab", Rows.laid_math_bits_deBruijn64tab)] w) false (World.doorLaid Tryz.prog 14 os) #[.agg #[.int .i64 0, .int .u64 0, .int .u64 0, .int .i64 0], .agg #[.int .i64 0, .int .i64 0, .int .i64 0], .int .u16 0] 8 rfl (World.shaped_of_RefB (by kernel_rfl) (by kernel_rfl)) (by kernel_rfl) (by kernel_rfl) (by kernel_rfl) (door_WholeStart os _)) ?_
  intro W base args ds gs before hval hW _ _ hL _
  exact law_contract (E := E) (f := 6) (fn := Tryz.f6) (s := Rows.wholeStartSpec) (tb := 4) (Qs := [qOp, qWay, qU16]) (by kernel_rfl) (by kernel_rfl) rfl (by kernel_rfl) rfl fn_WholeStart Tryz.func6 (by decide +kernel) (by kernel_rfl)
    (fun w => ⟨a_op w (ti := 3) (tu := 22) (tn := 2) (by kernel_rfl) (by kernel_rfl) (by kernel_rfl) (by kernel_rfl) (by kernel_rfl) (by kernel_rfl) (by kernel_rfl) (by kernel_rfl), a_way w (ti := 3) (by kernel_rfl) (by kernel_rfl) (by kernel_rfl) (by kernel_rfl) (by kernel_rfl), a_u16 w (by kernel_rfl), trivial⟩) law_WholeStart hval hW (globals_met hL)
theorem row_WholeStart : Rows.WholeStartSaid :=
  OpenClaim.holds_of_wide 6 Tryz.f6 rfl rfl rfl rfl rfl rfl rfl ⟨rfl, rfl, rfl, rfl, rfl⟩ rfl rfl rfl rfl rfl (by kernel_rfl) Tryz.func6 (by kernel_rfl)
    (of_decide_eq_true (by kernel_rfl)) (by unfold Func.isWrapper; first | (rw [if_pos (by decide +kernel)]; kernel_rfl) | (rw [if_neg (by decide +kernel)]; exact ⟨rfl, rfl⟩))
    (fun os started H enc _ => lifted_WholeStart os started H enc)
theorem card_WholeStart : Rows.WholeStartCardSaid :=
  Claim7.holds_tied_plain_at .later [] [.data] true (true, "21b554fa0bed690d9766a51cd930ee12d19f02023e2377f0cfcc1dc672b53ffa") false
    row_WholeStart (fun _ h => by cases h) (by kernel_rfl) (fun _ h => by cases h) wholeStart_row_tie rfl ⟨rfl, rfl⟩ (by kernel_rfl) rfl
    (fun f fn hf hfn => by
      obtain rfl : f = 6 := Option.some.inj ((show Tryz.prog.funcNamed "planimeter/planimetertop.WholeStart" = some 6 by kernel_rfl).symm.trans hf) |>.symm
      obtain rfl : fn = Tryz.f6 := (Option.some.inj (Tryz.func6.symm.trans hfn)).symm
      exact ⟨by kernel_rfl, fun j t ht => by
        rw [Tryz.params6] at ht
        have hm : t ∈ [61, 63, 64] := by simpa using Array.mem_of_getElem? ht
        have hall : ([61, 63, 64].all fun u => !Tryz.prog.wantsStandIn u) = true := by kernel_rfl
        exact (show Tryz.prog.wantsStandIn t = false by simpa using List.all_eq_true.1 hall t hm)⟩)
    (by kernel_rfl)
#print axioms card_WholeStart
end Go.Proofs.YtfkgaldbcngliaaGreatDoor
