/- For every input that reads as data, with the listed table of math/bits as the program's text lays it, the law IvShort returns true and leaves its arguments as they were: the row, and its tied card. -/
import Derived.Test.YtfogjddcagckaaaDoorLIvShort
import Derived.Test.YtfogjddcagckaaaDoorG7
import Derived.Test.YtfogjddcagckaaaDoorTie
import Derived.Test.YtfogjddcagckaaaDoorCards
open Go PG Go.Proofs Go.RowKit Go.ChangeShapes Go.WideShapes Go.ChangeAt
set_option maxRecDepth 100000
set_option linter.unusedSimpArgs false
set_option linter.unusedVariables false
namespace Go.Proofs.YtfogjddcagckaaaDoor

theorem own_IvShort : ownKnob Tryd.prog.godebug = none := by kernel_rfl
theorem door_IvShort (os : Os) (args : Array Value) : laidMetH Tryd.prog [("math/bits.deBruijn64tab", Rows.laid_math_bits_deBruijn64tab)] ((World.doorLaid Tryd.prog 14 os).forCall (fun _ _ => 0) ⟨#[], args, []⟩).memory :=
  laidMetH_of_parts3 (fuel := 8) (laidMet_of_run' 8 (by kernel_rfl) (by kernel_rfl)) (by kernel_rfl) (by kernel_rfl)

theorem fn_IvShort (H : Type) : ∀ ds : List (DataW H), ds.length = (Tryd.f8).params.toList.length → Rows.ivShortSpec.fn H ds = { results := [.lit (.bool true)], args := ds } := by
  intro ds h
  have h' : ds.length = 2 := h
  match ds, h' with
  | [d1, d2], _ => rfl

theorem lifted_IvShort (os : Os) (started : os.Started) (H : Type) (enc : TypeId × Value → H) :
    ReturnsInHanded {} Tryd.checked os 8 .any (fun w args => (Rows.ivShortSpec.pre enc Tryd.prog Tryd.f8 [] false w args ∧ laidMetH Tryd.prog [("math/bits.deBruijn64tab", Rows.laid_math_bits_deBruijn64tab)] w) ∧ sizedMet enc Tryd.prog Tryd.f8 (OpenSpec.ofChange Rows.ivShortSpec) false w args)
      (Rows.ivShortSpec.post enc Tryd.prog Tryd.f8 false true false false) := by
  refine returnsInHanded_of_change_and (C := Tryd.checked) (X := fun w _ => laidMetH Tryd.prog [("math/bits.deBruijn64tab", Rows.laid_math_bits_deBruijn64tab)] w) (fun _ _ _ hh h => h.of_heap hh) own_IvShort started (by kernel_rfl) Tryd.func8
    (ChangeSpec.witness_shaped (enc := enc) (C := Tryd.checked) (os := os) (X := fun w _ => laidMetH Tryd.prog [("math/bits.deBruijn64tab", Rows.laid_math_bits_deBruijn64tab)] w) false (World.doorLaid Tryd.prog 14 os) #[.agg #[.bool false, .slice none 0 0, .int .i64 0, .bool false, .slice none 0 0, .int .i64 0], .int .i64 0] 8 rfl (World.shaped_of_RefB (by kernel_rfl) (by kernel_rfl)) (by kernel_rfl) (by kernel_rfl) (by kernel_rfl) (door_IvShort os _)) ?_
  intro W base args ds gs before hval hW _ _ hL _
  exact law_contract (E := E) (f := 8) (fn := Tryd.f8) (s := Rows.ivShortSpec) (tb := 4) (Qs := [qJ, qInt]) (by kernel_rfl) (by kernel_rfl) rfl (by kernel_rfl) rfl fn_IvShort Tryd.func8 (by decide +kernel) (by kernel_rfl)
    (fun w => ⟨a_J w (d := 24) (a := 4) (b := 22) (c := 3) (e := 67) (by kernel_rfl) (by kernel_rfl) (by kernel_rfl) (by kernel_rfl) (by kernel_rfl) (by kernel_rfl) (by kernel_rfl) (by kernel_rfl) (by kernel_rfl) (by kernel_rfl) (by kernel_rfl) (by kernel_rfl) (by kernel_rfl) (by kernel_rfl), a_int w (by kernel_rfl), trivial⟩) law_IvShort hval hW (globals_met hL)

theorem row_IvShort : Rows.IvShortSaid :=
  OpenClaim.holds_of_wide 8 Tryd.f8 rfl rfl rfl rfl rfl rfl rfl ⟨rfl, rfl, rfl, rfl, rfl⟩ rfl rfl rfl rfl rfl (by kernel_rfl) Tryd.func8 (by kernel_rfl)
    (of_decide_eq_true (by kernel_rfl)) (by unfold Func.isWrapper; first | (rw [if_pos (by decide +kernel)]; kernel_rfl) | (rw [if_neg (by decide +kernel)]; exact ⟨rfl, rfl⟩))
    (fun os started H enc _ => lifted_IvShort os started H enc)

theorem card_IvShort : Rows.IvShortCardSaid :=
  Claim7.holds_tied_plain_at .later [] [.data] true (true, "a1f199cb6ab3d9e799a8e77f1b560a88e5b85c0560b589ef560acf312cba5ba1") false
    row_IvShort (fun _ h => by cases h) (by kernel_rfl) (fun _ h => by cases h) ivShort_row_tie rfl ⟨rfl, rfl⟩ (by kernel_rfl) rfl
    (fun f fn hf hfn => by
      obtain rfl : f = 8 := Option.some.inj ((show Tryd.prog.funcNamed "planimeter/planimeterlaw15.IvShort" = some 8 by kernel_rfl).symm.trans hf) |>.symm
      obtain rfl : fn = Tryd.f8 := (Option.some.inj (Tryd.func8.symm.trans hfn)).symm
      exact ⟨by kernel_rfl, fun j t ht => by
        rw [Tryd.params8] at ht
        have hm : t ∈ [36, 3] := by simpa using Array.mem_of_getElem? ht
        have hall : ([36, 3].all fun u => !Tryd.prog.wantsStandIn u) = true := by kernel_rfl
        exact (show Tryd.prog.wantsStandIn t = false by simpa using List.all_eq_true.1 hall t hm)⟩)
    (by kernel_rfl)
#print axioms card_IvShort
end Go.Proofs.YtfogjddcagckaaaDoor
