/- For every input that reads as data, with the listed table of math/bits as the program's text lays it, the law TotalSums returns true and leaves its arguments as they were: the row, and its tied card. -/
import Derived.Test.YtfogjddcagckaaaDoorLTotalSums
import Derived.Test.YtfogjddcagckaaaDoorG7
import Derived.Test.YtfogjddcagckaaaDoorTie
import Derived.Test.YtfogjddcagckaaaDoorCards
open Go PG Go.Proofs Go.RowKit Go.ChangeShapes Go.WideShapes Go.ChangeAt
set_option maxRecDepth 100000
set_option linter.unusedSimpArgs false
set_option linter.unusedVariables false
namespace Go.Proofs.YtfogjddcagckaaaDoor

theorem own_TotalSums : ownKnob Tryd.prog.godebug = none := by kernel_rfl
theorem door_TotalSums (os : Os) (args : Array Value) : laidMetH Tryd.prog [("math/bits.deBruijn64tab", Rows.laid_math_bits_deBruijn64tab)] ((World.doorLaid Tryd.prog 14 os).forCall (fun _ _ => 0) ⟨#[], args, []⟩).memory :=
  laidMetH_of_parts3 (fuel := 8) (laidMet_of_run' 8 (by kernel_rfl) (by kernel_rfl)) (by kernel_rfl) (by kernel_rfl)

theorem fn_TotalSums (H : Type) : ∀ ds : List (DataW H), ds.length = (Tryd.f9).params.toList.length → Rows.totalSumsSpec.fn H ds = { results := [.lit (.bool true)], args := ds } := by
  intro ds h
  have h' : ds.length = 2 := h
  match ds, h' with
  | [d1, d2], _ => rfl

theorem lifted_TotalSums (os : Os) (started : os.Started) (H : Type) (enc : TypeId × Value → H) :
    ReturnsInHanded {} Tryd.checked os 9 .any (fun w args => (Rows.totalSumsSpec.pre enc Tryd.prog Tryd.f9 [] false w args ∧ laidMetH Tryd.prog [("math/bits.deBruijn64tab", Rows.laid_math_bits_deBruijn64tab)] w) ∧ sizedMet enc Tryd.prog Tryd.f9 (OpenSpec.ofChange Rows.totalSumsSpec) false w args)
      (Rows.totalSumsSpec.post enc Tryd.prog Tryd.f9 false true false false) := by
  refine returnsInHanded_of_change_and (C := Tryd.checked) (X := fun w _ => laidMetH Tryd.prog [("math/bits.deBruijn64tab", Rows.laid_math_bits_deBruijn64tab)] w) (fun _ _ _ hh h => h.of_heap hh) own_TotalSums started (by kernel_rfl) Tryd.func9
    (ChangeSpec.witness_shaped (enc := enc) (C := Tryd.checked) (os := os) (X := fun w _ => laidMetH Tryd.prog [("math/bits.deBruijn64tab", Rows.laid_math_bits_deBruijn64tab)] w) false (World.doorLaid Tryd.prog 14 os) #[.slice none 0 0, .int .i64 0] 8 rfl (World.shaped_of_RefB (by kernel_rfl) (by kernel_rfl)) (by kernel_rfl) (by kernel_rfl) (by kernel_rfl) (door_TotalSums os _)) ?_
  intro W base args ds gs before hval hW _ _ hL _
  exact law_contract (E := E) (f := 9) (fn := Tryd.f9) (s := Rows.totalSumsSpec) (tb := 4) (Qs := [qPairs, qInt]) (by kernel_rfl) (by kernel_rfl) rfl (by kernel_rfl) rfl fn_TotalSums Tryd.func9 (by decide +kernel) (by kernel_rfl)
    (fun w => ⟨a_pairs w (d := 83) (e := 67) (by kernel_rfl) (by kernel_rfl) (by kernel_rfl) (by kernel_rfl) (by kernel_rfl) (by kernel_rfl) (by kernel_rfl), a_int w (by kernel_rfl), trivial⟩) law_TotalSums hval hW (globals_met hL)

theorem row_TotalSums : Rows.TotalSumsSaid :=
  OpenClaim.holds_of_wide 9 Tryd.f9 rfl rfl rfl rfl rfl rfl rfl ⟨rfl, rfl, rfl, rfl, rfl⟩ rfl rfl rfl rfl rfl (by kernel_rfl) Tryd.func9 (by kernel_rfl)
    (of_decide_eq_true (by kernel_rfl)) (by unfold Func.isWrapper; first | (rw [if_pos (by decide +kernel)]; kernel_rfl) | (rw [if_neg (by decide +kernel)]; exact ⟨rfl, rfl⟩))
    (fun os started H enc _ => lifted_TotalSums os started H enc)

theorem card_TotalSums : Rows.TotalSumsCardSaid :=
  Claim7.holds_tied_plain_at .later [] [.data] true (true, "a1f199cb6ab3d9e799a8e77f1b560a88e5b85c0560b589ef560acf312cba5ba1") false
    row_TotalSums (fun _ h => by cases h) (by kernel_rfl) (fun _ h => by cases h) totalSums_row_tie rfl ⟨rfl, rfl⟩ (by kernel_rfl) rfl
    (fun f fn hf hfn => by
      obtain rfl : f = 9 := Option.some.inj ((show Tryd.prog.funcNamed "planimeter/planimeterlaw29.TotalSums" = some 9 by kernel_rfl).symm.trans hf) |>.symm
      obtain rfl : fn = Tryd.f9 := (Option.some.inj (Tryd.func9.symm.trans hfn)).symm
      exact ⟨by kernel_rfl, fun j t ht => by
        rw [Tryd.params9] at ht
        have hm : t ∈ [81, 3] := by simpa using Array.mem_of_getElem? ht
        have hall : ([81, 3].all fun u => !Tryd.prog.wantsStandIn u) = true := by kernel_rfl
        exact (show Tryd.prog.wantsStandIn t = false by simpa using List.all_eq_true.1 hall t hm)⟩)
    (by kernel_rfl)
#print axioms card_TotalSums
end Go.Proofs.YtfogjddcagckaaaDoor
