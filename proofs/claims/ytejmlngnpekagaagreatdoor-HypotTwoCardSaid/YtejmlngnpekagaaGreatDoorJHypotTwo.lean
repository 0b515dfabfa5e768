/- For every input that reads as data, with the listed table of math/bits as the program's text lays it, the law HypotTwo returns true and leaves its arguments as they were: the row, and its tied card. -/
import Derived.Test.YtejmlngnpekagaaGreatDoorLHypotTwo
import Derived.Test.YtejmlngnpekagaaGreatDoorG7
import Derived.Test.YtejmlngnpekagaaGreatDoorTie
import Derived.Test.YtejmlngnpekagaaGreatDoorCards
open Go PG Go.Proofs Go.RowKit Go.ChangeShapes Go.WideShapes Go.ChangeAt
set_option maxRecDepth 100000
set_option linter.unusedSimpArgs false
set_option linter.unusedVariables false
namespace Go.Proofs.YtejmlngnpekagaaGreatDoor

theorem own_HypotTwo : ownKnob Tryz.prog.godebug = none := by kernel_rfl
theorem door_HypotTwo (os : Os) (args : Array Value) : laidMetH Tryz.prog [("math/bits.deBruijn64tab", Rows.laid_math_bits_deBruijn64tab)] ((World.doorLaid Tryz.prog 14 os).forCall (fun _ _ => 0) ⟨#[], args, []⟩).memory :=
  laidMetH_of_parts3 (fuel := 8) (laidMet_of_run' 8 (by kernel_rfl) (by kernel_rfl)) (by kernel_rfl) (by kernel_rfl)

theorem fn_HypotTwo (H : Type) : ∀ ds : List (DataW H), ds.length = (Tryz.f9).params.toList.length → Rows.hypotTwoSpec.fn H ds = { results := [.lit (.bool true)], args := ds } := by
  intro ds h
  have h' : ds.length = 3 := h
  match ds, h' with
  | [d1, d2, d3], _ => rfl

theorem lifted_HypotTwo (os : Os) (started : os.Started) (H : Type) (enc : TypeId × Value → H) :
    ReturnsInHanded {} Tryz.checked os 9 .any (fun w args => (Rows.hypotTwoSpec.pre enc Tryz.prog Tryz.f9 [] false w args ∧ laidMetH Tryz.prog [("math/bits.deBruijn64tab", Rows.laid_math_bits_deBruijn64tab)] w) ∧ sizedMet enc Tryz.prog Tryz.f9 (OpenSpec.ofChange Rows.hypotTwoSpec) false w args)
      (Rows.hypotTwoSpec.post enc Tryz.prog Tryz.f9 false true false false) := by
  refine returnsInHanded_of_change_and (C := Tryz.checked) (X := fun w _ => laidMetH Tryz.prog [("math/bits.deBruijn64tab", Rows.laid_math_bits_deBruijn64tab)] w) (fun _ _ _ hh h => h.of_heap hh) own_HypotTwo started (by kernel_rfl) Tryz.func9
    (ChangeSpec.witness_shaped (enc := enc) (C := Tryz.checked) (os := os) (X := fun w _ => laidMetH Tryz.prog [("math/bits.deBruijn64tab", Rows.laid_math_bits_deBruijn64tab)] w) false (World.doorLaid Tryz.prog 14 os) #[.int .u64 0, .int .u64 0, .int .i64 0] 8 rfl (World.shaped_of_RefB (by kernel_rfl) (by kernel_rfl)) (by kernel_rfl) (by kernel_rfl) (by kernel_rfl) (door_HypotTwo os _)) ?_
  intro W base args ds gs before hval hW _ _ hL _
  exact law_contract (E := E) (f := 9) (fn := Tryz.f9) (s := Rows.hypotTwoSpec) (tb := 4) (Qs := [qU64, qU64, qInt]) (by kernel_rfl) (by kernel_rfl) rfl (by kernel_rfl) rfl fn_HypotTwo Tryz.func9 (by decide +kernel) (by kernel_rfl)
    (fun w => ⟨a_u64 w (by kernel_rfl), a_u64 w (by kernel_rfl), a_int w (by kernel_rfl), trivial⟩) law_HypotTwo hval hW (globals_met hL)

theorem row_HypotTwo : Rows.HypotTwoSaid :=
  OpenClaim.holds_of_wide 9 Tryz.f9 rfl rfl rfl rfl rfl rfl rfl ⟨rfl, rfl, rfl, rfl, rfl⟩ rfl rfl rfl rfl rfl (by kernel_rfl) Tryz.func9 (by kernel_rfl)
    (of_decide_eq_true (by kernel_rfl)) (by unfold Func.isWrapper; first | (rw [if_pos (by decide +kernel)]; kernel_rfl) | (rw [if_neg (by decide +kernel)]; exact ⟨rfl, rfl⟩))
    (fun os started H enc _ => lifted_HypotTwo os started H enc)

theorem card_HypotTwo : Rows.HypotTwoCardSaid :=
  Claim7.holds_tied_plain_at .later [] [.data] true (true, "4b53b4ca6a965b3467ab4a092f97a0e1effee64128121d3f76c481d586587eb5") false
    row_HypotTwo (fun _ h => by cases h) (by kernel_rfl) (fun _ h => by cases h) hypotTwo_row_tie rfl ⟨rfl, rfl⟩ (by kernel_rfl) rfl
    (fun f fn hf hfn => by
      obtain rfl : f = 9 := Option.some.inj ((show Tryz.prog.funcNamed "planimeter/planimeterlaw30.HypotTwo" = some 9 by kernel_rfl).symm.trans hf) |>.symm
      obtain rfl : fn = Tryz.f9 := (Option.some.inj (Tryz.func9.symm.trans hfn)).symm
      exact ⟨by kernel_rfl, fun j t ht => by
        rw [Tryz.params9] at ht
        have hm : t ∈ [23, 23, 3] := by simpa using Array.mem_of_getElem? ht
        have hall : ([23, 23, 3].all fun u => !Tryz.prog.wantsStandIn u) = true := by kernel_rfl
        exact (show Tryz.prog.wantsStandIn t = false by simpa using List.all_eq_true.1 hall t hm)⟩)
    (by kernel_rfl)
#print axioms card_HypotTwo
end Go.Proofs.YtejmlngnpekagaaGreatDoor
