/- For every input that reads as data, with the listed table of math/bits as the program's text lays it, the law SpecialPow returns true and leaves its arguments as they were: the row, and its tied card. -/
import Derived.Test.YtkddalmjhmgbeaaDoorLSpecialPow
import Derived.Test.YtkddalmjhmgbeaaDoorArgs
import Derived.Test.YtkddalmjhmgbeaaDoorTie
import Derived.Test.YtkddalmjhmgbeaaDoorCards
open Go PG Go.Proofs Go.RowKit Go.ChangeShapes Go.WideShapes Go.ChangeAt
set_option maxRecDepth 100000
set_option linter.unusedSimpArgs false
set_option linter.unusedVariables false
namespace Go.Proofs.YtkddalmjhmgbeaaDoor

theorem own_SpecialPow : ownKnob Tryd.prog.godebug = none := by kernel_rfl
theorem door_SpecialPow (os : Os) (args : Array Value) : laidMetH Tryd.prog [("math/bits.deBruijn64tab", Rows.laid_math_bits_deBruijn64tab)] ((World.doorLaid Tryd.prog 14 os).forCall (fun _ _ => 0) ⟨#[], args, []⟩).memory :=
  laidMetH_of_parts3 (fuel := 8) (laidMet_of_run' 8 (by kernel_rfl) (by kernel_rfl)) (by kernel_rfl) (by kernel_rfl)

theorem fn_SpecialPow (H : Type) : ∀ ds : List (DataW H), ds.length = (Tryd.f7).params.toList.length → Rows.specialPowSpec.fn H ds = { results := [.lit (.bool true)], args := ds } := by
  intro ds h
  have h' : ds.length = 2 := h
  match ds, h' with
  | [d1, d2], _ => rfl

theorem lifted_SpecialPow (os : Os) (started : os.Started) (H : Type) (enc : TypeId × Value → H) :
    ReturnsInHanded {} Tryd.checked os 7 .any (fun w args => (Rows.specialPowSpec.pre enc Tryd.prog Tryd.f7 [] false w args ∧ laidMetH Tryd.prog [("math/bits.deBruijn64tab", Rows.laid_math_bits_deBruijn64tab)] w) ∧ sizedMet enc Tryd.prog Tryd.f7 (OpenSpec.ofChange Rows.specialPowSpec) false w args)
      (Rows.specialPowSpec.post enc Tryd.prog Tryd.f7 false true false false) := by
  refine returnsInHanded_of_change_and (C := Tryd.checked) (X := fun w _ => laidMetH Tryd.prog [("math/bits.deBruijn64tab", Rows.laid_math_bits_deBruijn64tab)] w) (fun _ _ _ hh h => h.of_heap hh) own_SpecialPow started (by kernel_rfl) Tryd.func7
    (ChangeSpec.witness_shaped (enc := enc) (C := Tryd.checked) (os := os) (X := fun w _ => laidMetH Tryd.prog [("math/bits.deBruijn64tab", Rows.laid_math_bits_deBruijn64tab)] w) false (World.doorLaid Tryd.prog 14 os) #[.int .u64 0, .int .u64 0] 8 rfl (World.shaped_of_RefB (by kernel_rfl) (by kernel_rfl)) (by kernel_rfl) (by kernel_rfl) (by kernel_rfl) (door_SpecialPow os _)) ?_
  intro W base args ds gs before hval hW _ _ hL _
  exact law_contract (E := E) (f := 7) (fn := Tryd.f7) (s := Rows.specialPowSpec) (tb := 4) (Qs := [qU64, qU64]) (by kernel_rfl) (by kernel_rfl) rfl (by kernel_rfl) rfl fn_SpecialPow Tryd.func7 (by decide +kernel) (by kernel_rfl)
    (fun w => ⟨a_u64 w (by kernel_rfl), a_u64 w (by kernel_rfl), trivial⟩) law_SpecialPow hval hW (globals_met hL)

theorem row_SpecialPow : Rows.SpecialPowSaid :=
  OpenClaim.holds_of_wide 7 Tryd.f7 rfl rfl rfl rfl rfl rfl rfl ⟨rfl, rfl, rfl, rfl, rfl⟩ rfl rfl rfl rfl rfl (by kernel_rfl) Tryd.func7 (by kernel_rfl)
    (of_decide_eq_true (by kernel_rfl)) (by unfold Func.isWrapper; first | (rw [if_pos (by decide +kernel)]; kernel_rfl) | (rw [if_neg (by decide +kernel)]; exact ⟨rfl, rfl⟩))
    (fun os started H enc _ => lifted_SpecialPow os started H enc)

theorem card_SpecialPow : Rows.SpecialPowCardSaid :=
  Claim7.holds_tied_plain_at .later [] [.data] true (true, "b103c602100799966bf9365e2f1a7a0c2097dcd8181b44869799eb9b71ca370f") false
    row_SpecialPow (fun _ h => by cases h) (by kernel_rfl) (fun _ h => by cases h) specialPow_row_tie rfl ⟨rfl, rfl⟩ (by kernel_rfl) rfl
    (fun f fn hf hfn => by
      obtain rfl : f = 7 := Option.some.inj ((show Tryd.prog.funcNamed "planimeter/planimeterlaw20.SpecialPow" = some 7 by kernel_rfl).symm.trans hf) |>.symm
      obtain rfl : fn = Tryd.f7 := (Option.some.inj (Tryd.func7.symm.trans hfn)).symm
      exact ⟨by kernel_rfl, fun j t ht => by
        rw [Tryd.params7] at ht
        have hm : t ∈ [47, 47] := by simpa using Array.mem_of_getElem? ht
        have hall : ([47, 47].all fun u => !Tryd.prog.wantsStandIn u) = true := by kernel_rfl
        exact (show Tryd.prog.wantsStandIn t = false by simpa using List.all_eq_true.1 hall t hm)⟩)
    (by kernel_rfl)
#print axioms card_SpecialPow
end Go.Proofs.YtkddalmjhmgbeaaDoor
