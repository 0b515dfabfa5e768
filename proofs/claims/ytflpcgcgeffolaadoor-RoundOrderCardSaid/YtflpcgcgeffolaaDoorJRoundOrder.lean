/- For every input that reads as data, with the listed table of math/bits as the program's text lays it, the law RoundOrder returns true and leaves its arguments as they were: the row, and its tied card. -/
import Derived.Test.YtflpcgcgeffolaaDoorLRoundOrder
import Derived.Test.YtflpcgcgeffolaaDoorG7
import Derived.Test.YtflpcgcgeffolaaDoorTie
import Derived.Test.YtflpcgcgeffolaaDoorCards
open Go PG Go.Proofs Go.RowKit Go.ChangeShapes Go.WideShapes Go.ChangeAt
set_option maxRecDepth 100000
set_option linter.unusedSimpArgs false
set_option linter.unusedVariables false
namespace Go.Proofs.YtflpcgcgeffolaaDoor

theorem own_RoundOrder : ownKnob Tryd.prog.godebug = none := by kernel_rfl
theorem door_RoundOrder (os : Os) (args : Array Value) : laidMetH Tryd.prog [("math/bits.deBruijn64tab", Rows.laid_math_bits_deBruijn64tab)] ((World.doorLaid Tryd.prog 14 os).forCall (fun _ _ => 0) ⟨#[], args, []⟩).memory :=
  laidMetH_of_parts3 (fuel := 8) (laidMet_of_run' 8 (by kernel_rfl) (by kernel_rfl)) (by kernel_rfl) (by kernel_rfl)

theorem fn_RoundOrder (H : Type) : ∀ ds : List (DataW H), ds.length = (Tryd.f11).params.toList.length → Rows.roundOrderSpec.fn H ds = { results := [.lit (.bool true)], args := ds } := by
  intro ds h
  have h' : ds.length = 4 := h
  match ds, h' with
  | [d1, d2, d3, d4], _ => rfl

theorem lifted_RoundOrder (os : Os) (started : os.Started) (H : Type) (enc : TypeId × Value → H) :
    ReturnsInHanded {} Tryd.checked os 11 .any (fun w args => (Rows.roundOrderSpec.pre enc Tryd.prog Tryd.f11 [] false w args ∧ laidMetH Tryd.prog [("math/bits.deBruijn64tab", Rows.laid_math_bits_deBruijn64tab)] w) ∧ sizedMet enc Tryd.prog Tryd.f11 (OpenSpec.ofChange Rows.roundOrderSpec) false w args)
      (Rows.roundOrderSpec.post enc Tryd.prog Tryd.f11 false true false false) := by
  refine returnsInHanded_of_change_and (C := Tryd.checked) (X := fun w _ => laidMetH Tryd.prog [("math/bits.deBruijn64tab", Rows.laid_math_bits_deBruijn64tab)] w) (fun _ _ _ hh h => h.of_heap hh) own_RoundOrder started (by kernel_rfl) Tryd.func11
    (ChangeSpec.witness_shaped (enc := enc) (C := Tryd.checked) (os := os) (X := fun w _ => laidMetH Tryd.prog [("math/bits.deBruijn64tab", Rows.laid_math_bits_deBruijn64tab)] w) false (World.doorLaid Tryd.prog 14 os) #[.agg #[.bool false, .slice none 0 0, .int .i64 0], .agg #[.bool false, .slice none 0 0, .int .i64 0], .int .u8 0, .int .u64 0] 8 rfl (World.shaped_of_RefB (by kernel_rfl) (by kernel_rfl)) (by kernel_rfl) (by kernel_rfl) (by kernel_rfl) (door_RoundOrder os _)) ?_
  intro W base args ds gs before hval hW _ _ hL _
  exact law_contract (E := E) (f := 11) (fn := Tryd.f11) (s := Rows.roundOrderSpec) (tb := 4) (Qs := [qD, qD, qU8, qU64]) (by kernel_rfl) (by kernel_rfl) rfl (by kernel_rfl) rfl fn_RoundOrder Tryd.func11 (by decide +kernel) (by kernel_rfl)
    (fun w => ⟨a_D w (a := 4) (b := 36) (c := 3) (e := 22) (by kernel_rfl) (by kernel_rfl) (by kernel_rfl) (by kernel_rfl) (by kernel_rfl) (by kernel_rfl) (by kernel_rfl) (by kernel_rfl) (by kernel_rfl) (by kernel_rfl), a_D w (a := 4) (b := 36) (c := 3) (e := 22) (by kernel_rfl) (by kernel_rfl) (by kernel_rfl) (by kernel_rfl) (by kernel_rfl) (by kernel_rfl) (by kernel_rfl) (by kernel_rfl) (by kernel_rfl) (by kernel_rfl), a_u8 w (by kernel_rfl), a_u64 w (by kernel_rfl), trivial⟩) law_RoundOrder hval hW (globals_met hL)

theorem row_RoundOrder : Rows.RoundOrderSaid :=
  OpenClaim.holds_of_wide 11 Tryd.f11 rfl rfl rfl rfl rfl rfl rfl ⟨rfl, rfl, rfl, rfl, rfl⟩ rfl rfl rfl rfl rfl (by kernel_rfl) Tryd.func11 (by kernel_rfl)
    (of_decide_eq_true (by kernel_rfl)) (by unfold Func.isWrapper; first | (rw [if_pos (by decide +kernel)]; kernel_rfl) | (rw [if_neg (by decide +kernel)]; exact ⟨rfl, rfl⟩))
    (fun os started H enc _ => lifted_RoundOrder os started H enc)

theorem card_RoundOrder : Rows.RoundOrderCardSaid :=
  Claim7.holds_tied_plain_at .later [] [.data] true (true, "950b957c61e84adbde2b4bcf76f47821297c3a72e808a8335cbf37b1fd588821") false
    row_RoundOrder (fun _ h => by cases h) (by kernel_rfl) (fun _ h => by cases h) roundOrder_row_tie rfl ⟨rfl, rfl⟩ (by kernel_rfl) rfl
    (fun f fn hf hfn => by
      obtain rfl : f = 11 := Option.some.inj ((show Tryd.prog.funcNamed "planimeter/planimeterlaw07.RoundOrder" = some 11 by kernel_rfl).symm.trans hf) |>.symm
      obtain rfl : fn = Tryd.f11 := (Option.some.inj (Tryd.func11.symm.trans hfn)).symm
      exact ⟨by kernel_rfl, fun j t ht => by
        rw [Tryd.params11] at ht
        have hm : t ∈ [38, 38, 5, 22] := by simpa using Array.mem_of_getElem? ht
        have hall : ([38, 38, 5, 22].all fun u => !Tryd.prog.wantsStandIn u) = true := by kernel_rfl
        exact (show Tryd.prog.wantsStandIn t = false by simpa using List.all_eq_true.1 hall t hm)⟩)
    (by kernel_rfl)
#print axioms card_RoundOrder
end Go.Proofs.YtflpcgcgeffolaaDoor
