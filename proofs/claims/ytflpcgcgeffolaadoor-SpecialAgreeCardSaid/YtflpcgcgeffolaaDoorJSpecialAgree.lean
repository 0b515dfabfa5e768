/- For every input that reads as data, with the listed table of math/bits as the program's text lays it, the law SpecialAgree returns true and leaves its arguments as they were: the row, and its tied card. -/
import Derived.Test.YtflpcgcgeffolaaDoorLSpecialAgree
import Derived.Test.YtflpcgcgeffolaaDoorG7
import Derived.Test.YtflpcgcgeffolaaDoorTie
import Derived.Test.YtflpcgcgeffolaaDoorCards
open Go PG Go.Proofs Go.RowKit Go.ChangeShapes Go.WideShapes Go.ChangeAt
set_option maxRecDepth 100000
set_option linter.unusedSimpArgs false
set_option linter.unusedVariables false
namespace Go.Proofs.YtflpcgcgeffolaaDoor

theorem own_SpecialAgree : ownKnob Tryd.prog.godebug = none := by kernel_rfl
theorem door_SpecialAgree (os : Os) (args : Array Value) : laidMetH Tryd.prog [("math/bits.deBruijn64tab", Rows.laid_math_bits_deBruijn64tab)] ((World.doorLaid Tryd.prog 14 os).forCall (fun _ _ => 0) ⟨#[], args, []⟩).memory :=
  laidMetH_of_parts3 (fuel := 8) (laidMet_of_run' 8 (by kernel_rfl) (by kernel_rfl)) (by kernel_rfl) (by kernel_rfl)

theorem fn_SpecialAgree (H : Type) : ∀ ds : List (DataW H), ds.length = (Tryd.f3).params.toList.length → Rows.specialAgreeSpec.fn H ds = { results := [.lit (.bool true)], args := ds } := by
  intro ds h
  have h' : ds.length = 3 := h
  match ds, h' with
  | [d1, d2, d3], _ => rfl

theorem lifted_SpecialAgree (os : Os) (started : os.Started) (H : Type) (enc : TypeId × Value → H) :
    ReturnsInHanded {} Tryd.checked os 3 .any (fun w args => (Rows.specialAgreeSpec.pre enc Tryd.prog Tryd.f3 [] false w args ∧ laidMetH Tryd.prog [("math/bits.deBruijn64tab", Rows.laid_math_bits_deBruijn64tab)] w) ∧ sizedMet enc Tryd.prog Tryd.f3 (OpenSpec.ofChange Rows.specialAgreeSpec) false w args)
      (Rows.specialAgreeSpec.post enc Tryd.prog Tryd.f3 false true false false) := by
  refine returnsInHanded_of_change_and (C := Tryd.checked) (X := fun w _ => laidMetH Tryd.prog [("math/bits.deBruijn64tab", Rows.laid_math_bits_deBruijn64tab)] w) (fun _ _ _ hh h => h.of_heap hh) own_SpecialAgree started (by kernel_rfl) Tryd.func3
    (ChangeSpec.witness_shaped (enc := enc) (C := Tryd.checked) (os := os) (X := fun w _ => laidMetH Tryd.prog [("math/bits.deBruijn64tab", Rows.laid_math_bits_deBruijn64tab)] w) false (World.doorLaid Tryd.prog 14 os) #[.int .u64 0, .int .u64 0, .int .i64 0] 8 rfl (World.shaped_of_RefB (by kernel_rfl) (by kernel_rfl)) (by kernel_rfl) (by kernel_rfl) (by kernel_rfl) (door_SpecialAgree os _)) ?_
  intro W base args ds gs before hval hW _ _ hL _
  exact law_contract (E := E) (f := 3) (fn := Tryd.f3) (s := Rows.specialAgreeSpec) (tb := 4) (Qs := [qU64, qU64, qInt]) (by kernel_rfl) (by kernel_rfl) rfl (by kernel_rfl) rfl fn_SpecialAgree Tryd.func3 (by decide +kernel) (by kernel_rfl)
    (fun w => ⟨a_u64 w (by kernel_rfl), a_u64 w (by kernel_rfl), a_int w (by kernel_rfl), trivial⟩) law_SpecialAgree hval hW (globals_met hL)

theorem row_SpecialAgree : Rows.SpecialAgreeSaid :=
  OpenClaim.holds_of_wide 3 Tryd.f3 rfl rfl rfl rfl rfl rfl rfl ⟨rfl, rfl, rfl, rfl, rfl⟩ rfl rfl rfl rfl rfl (by kernel_rfl) Tryd.func3 (by kernel_rfl)
    (of_decide_eq_true (by kernel_rfl)) (by unfold Func.isWrapper; first | (rw [if_pos (by decide +kernel)]; kernel_rfl) | (rw [if_neg (by decide +kernel)]; exact ⟨rfl, rfl⟩))
    (fun os started H enc _ => lifted_SpecialAgree os started H enc)

theorem card_SpecialAgree : Rows.SpecialAgreeCardSaid :=
  Claim7.holds_tied_plain_at .later [] [.data] true (true, "950b957c61e84adbde2b4bcf76f47821297c3a72e808a8335cbf37b1fd588821") false
    row_SpecialAgree (fun _ h => by cases h) (by kernel_rfl) (fun _ h => by cases h) specialAgree_row_tie rfl ⟨rfl, rfl⟩ (by kernel_rfl) rfl
    (fun f fn hf hfn => by
      obtain rfl : f = 3 := Option.some.inj ((show Tryd.prog.funcNamed "planimeter/planimeterlaw20.SpecialAgree" = some 3 by kernel_rfl).symm.trans hf) |>.symm
      obtain rfl : fn = Tryd.f3 := (Option.some.inj (Tryd.func3.symm.trans hfn)).symm
      exact ⟨by kernel_rfl, fun j t ht => by
        rw [Tryd.params3] at ht
        have hm : t ∈ [22, 22, 2] := by simpa using Array.mem_of_getElem? ht
        have hall : ([22, 22, 2].all fun u => !Tryd.prog.wantsStandIn u) = true := by kernel_rfl
        exact (show Tryd.prog.wantsStandIn t = false by simpa using List.all_eq_true.1 hall t hm)⟩)
    (by kernel_rfl)
#print axioms card_SpecialAgree
end Go.Proofs.YtflpcgcgeffolaaDoor
