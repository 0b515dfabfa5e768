/- For every input that reads as data, with the listed table of math/bits as the program's text lays it, the law FloatWhole returns true and leaves its arguments as they were: the row, and its tied card. -/
import Derived.Test.YtkddalmjhmgbeaaDoorLFloatWhole
import Derived.Test.YtkddalmjhmgbeaaDoorArgs
import Derived.Test.YtkddalmjhmgbeaaDoorTie
import Derived.Test.YtkddalmjhmgbeaaDoorCards
open Go PG Go.Proofs Go.RowKit Go.ChangeShapes Go.WideShapes Go.ChangeAt
set_option maxRecDepth 100000
set_option linter.unusedSimpArgs false
set_option linter.unusedVariables false
namespace Go.Proofs.YtkddalmjhmgbeaaDoor

theorem own_FloatWhole : ownKnob Tryd.prog.godebug = none := by kernel_rfl
theorem door_FloatWhole (os : Os) (args : Array Value) : laidMetH Tryd.prog [("math/bits.deBruijn64tab", Rows.laid_math_bits_deBruijn64tab)] ((World.doorLaid Tryd.prog 14 os).forCall (fun _ _ => 0) ⟨#[], args, []⟩).memory :=
  laidMetH_of_parts3 (fuel := 8) (laidMet_of_run' 8 (by kernel_rfl) (by kernel_rfl)) (by kernel_rfl) (by kernel_rfl)

theorem fn_FloatWhole (H : Type) : ∀ ds : List (DataW H), ds.length = (Tryd.f10).params.toList.length → Rows.floatWholeSpec.fn H ds = { results := [.lit (.bool true)], args := ds } := by
  intro ds h
  have h' : ds.length = 2 := h
  match ds, h' with
  | [d1, d2], _ => rfl

theorem lifted_FloatWhole (os : Os) (started : os.Started) (H : Type) (enc : TypeId × Value → H) :
    ReturnsInHanded {} Tryd.checked os 10 .any (fun w args => (Rows.floatWholeSpec.pre enc Tryd.prog Tryd.f10 [] false w args ∧ laidMetH Tryd.prog [("math/bits.deBruijn64tab", Rows.laid_math_bits_deBruijn64tab)] w) ∧ sizedMet enc Tryd.prog Tryd.f10 (OpenSpec.ofChange Rows.floatWholeSpec) false w args)
      (Rows.floatWholeSpec.post enc Tryd.prog Tryd.f10 false true false false) := by
  refine returnsInHanded_of_change_and (C := Tryd.checked) (X := fun w _ => laidMetH Tryd.prog [("math/bits.deBruijn64tab", Rows.laid_math_bits_deBruijn64tab)] w) (fun _ _ _ hh h => h.of_heap hh) own_FloatWhole started (by kernel_rfl) Tryd.func10
    (ChangeSpec.witness_shaped (enc := enc) (C := Tryd.checked) (os := os) (X := fun w _ => laidMetH Tryd.prog [("math/bits.deBruijn64tab", Rows.laid_math_bits_deBruijn64tab)] w) false (World.doorLaid Tryd.prog 14 os) #[.int .u64 0, .bool false] 8 rfl (World.shaped_of_RefB (by kernel_rfl) (by kernel_rfl)) (by kernel_rfl) (by kernel_rfl) (by kernel_rfl) (door_FloatWhole os _)) ?_
  intro W base args ds gs before hval hW _ _ hL _
  exact law_contract (E := E) (f := 10) (fn := Tryd.f10) (s := Rows.floatWholeSpec) (tb := 4) (Qs := [qU64, qBool]) (by kernel_rfl) (by kernel_rfl) rfl (by kernel_rfl) rfl fn_FloatWhole Tryd.func10 (by decide +kernel) (by kernel_rfl)
    (fun w => ⟨a_u64 w (by kernel_rfl), a_bool w (by kernel_rfl), trivial⟩) law_FloatWhole hval hW (globals_met hL)

theorem row_FloatWhole : Rows.FloatWholeSaid :=
  OpenClaim.holds_of_wide 10 Tryd.f10 rfl rfl rfl rfl rfl rfl rfl ⟨rfl, rfl, rfl, rfl, rfl⟩ rfl rfl rfl rfl rfl (by kernel_rfl) Tryd.func10 (by kernel_rfl)
    (of_decide_eq_true (by kernel_rfl)) (by unfold Func.isWrapper; first | (rw [if_pos (by decide +kernel)]; kernel_rfl) | (rw [if_neg (by decide +kernel)]; exact ⟨rfl, rfl⟩))
    (fun os started H enc _ => lifted_FloatWhole os started H enc)

theorem card_FloatWhole : Rows.FloatWholeCardSaid :=
  Claim7.holds_tied_plain_at .later [] [.data] true (true, "b103c602100799966bf9365e2f1a7a0c2097dcd8181b44869799eb9b71ca370f") false
    row_FloatWhole (fun _ h => by cases h) (by kernel_rfl) (fun _ h => by cases h) floatWhole_row_tie rfl ⟨rfl, rfl⟩ (by kernel_rfl) rfl
    (fun f fn hf hfn => by
      obtain rfl : f = 10 := Option.some.inj ((show Tryd.prog.funcNamed "planimeter/planimeterlaw06.FloatWhole" = some 10 by kernel_rfl).symm.trans hf) |>.symm
      obtain rfl : fn = Tryd.f10 := (Option.some.inj (Tryd.func10.symm.trans hfn)).symm
      exact ⟨by kernel_rfl, fun j t ht => by
        rw [Tryd.params10] at ht
        have hm : t ∈ [47, 4] := by simpa using Array.mem_of_getElem? ht
        have hall : ([47, 4].all fun u => !Tryd.prog.wantsStandIn u) = true := by kernel_rfl
        exact (show Tryd.prog.wantsStandIn t = false by simpa using List.all_eq_true.1 hall t hm)⟩)
    (by kernel_rfl)
#print axioms card_FloatWhole
end Go.Proofs.YtkddalmjhmgbeaaDoor
