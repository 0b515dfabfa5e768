/- For every input that reads as data, with the listed table of math/bits as the program's text lays it, the law BasicRules returns true and leaves its arguments as they were: the row, and its tied card. -/
import Derived.Test.YtejmlngnpekagaaDoorLBasicRules
import Derived.Test.YtejmlngnpekagaaDoorG7
import Derived.Test.YtejmlngnpekagaaDoorTie
import Derived.Test.YtejmlngnpekagaaDoorCards
open Go PG Go.Proofs Go.RowKit Go.ChangeShapes Go.WideShapes Go.ChangeAt
set_option maxRecDepth 100000
set_option linter.unusedSimpArgs false
set_option linter.unusedVariables false
namespace Go.Proofs.YtejmlngnpekagaaDoor

theorem own_BasicRules : ownKnob Tryd.prog.godebug = none := by kernel_rfl
theorem door_BasicRules (os : Os) (args : Array Value) : laidMetH Tryd.prog [("math/bits.deBruijn64tab", Rows.laid_math_bits_deBruijn64tab)] ((World.doorLaid Tryd.prog 14 os).forCall (fun _ _ => 0) ⟨#[], args, []⟩).memory :=
  laidMetH_of_parts3 (fuel := 8) (laidMet_of_run' 8 (by kernel_rfl) (by kernel_rfl)) (by kernel_rfl) (by kernel_rfl)

theorem fn_BasicRules (H : Type) : ∀ ds : List (DataW H), ds.length = (Tryd.f6).params.toList.length → Rows.basicRulesSpec.fn H ds = { results := [.lit (.bool true)], args := ds } := by
  intro ds h
  have h' : ds.length = 3 := h
  match ds, h' with
  | [d1, d2, d3], _ => rfl

theorem lifted_BasicRules (os : Os) (started : os.Started) (H : Type) (enc : TypeId × Value → H) :
    ReturnsInHanded {} Tryd.checked os 6 .any (fun w args => (Rows.basicRulesSpec.pre enc Tryd.prog Tryd.f6 [] false w args ∧ laidMetH Tryd.prog [("math/bits.deBruijn64tab", Rows.laid_math_bits_deBruijn64tab)] w) ∧ sizedMet enc Tryd.prog Tryd.f6 (OpenSpec.ofChange Rows.basicRulesSpec) false w args)
      (Rows.basicRulesSpec.post enc Tryd.prog Tryd.f6 false true false false) := by
  refine returnsInHanded_of_change_and (C := Tryd.checked) (X := fun w _ => laidMetH Tryd.prog [("math/bits.deBruijn64tab", Rows.laid_math_bits_deBruijn64tab)] w) (fun _ _ _ hh h => h.of_heap hh) own_BasicRules started (by kernel_rfl) Tryd.func6
    (ChangeSpec.witness_shaped (enc := enc) (C := Tryd.checked) (os := os) (X := fun w _ => laidMetH Tryd.prog [("math/bits.deBruijn64tab", Rows.laid_math_bits_deBruijn64tab)] w) false (World.doorLaid Tryd.prog 14 os) #[.int .u64 0, .int .u64 0, .int .u8 0] 8 rfl (World.shaped_of_RefB (by kernel_rfl) (by kernel_rfl)) (by kernel_rfl) (by kernel_rfl) (by kernel_rfl) (door_BasicRules os _)) ?_
  intro W base args ds gs before hval hW _ _ hL _
  exact law_contract (E := E) (f := 6) (fn := Tryd.f6) (s := Rows.basicRulesSpec) (tb := 4) (Qs := [qU64, qU64, qU8]) (by kernel_rfl) (by kernel_rfl) rfl (by kernel_rfl) rfl fn_BasicRules Tryd.func6 (by decide +kernel) (by kernel_rfl)
    (fun w => ⟨a_u64 w (by kernel_rfl), a_u64 w (by kernel_rfl), a_u8 w (by kernel_rfl), trivial⟩) law_BasicRules hval hW (globals_met hL)

theorem row_BasicRules : Rows.BasicRulesSaid :=
  OpenClaim.holds_of_wide 6 Tryd.f6 rfl rfl rfl rfl rfl rfl rfl ⟨rfl, rfl, rfl, rfl, rfl⟩ rfl rfl rfl rfl rfl (by kernel_rfl) Tryd.func6 (by kernel_rfl)
    (of_decide_eq_true (by kernel_rfl)) (by unfold Func.isWrapper; first | (rw [if_pos (by decide +kernel)]; kernel_rfl) | (rw [if_neg (by decide +kernel)]; exact ⟨rfl, rfl⟩))
    (fun os started H enc _ => lifted_BasicRules os started H enc)

theorem card_BasicRules : Rows.BasicRulesCardSaid :=
  Claim7.holds_tied_plain_at .later [] [.data] true (true, "593d3480d6cd304ee3ca13f6bab0952fffbe6387e802eca1670af46709418529") false
    row_BasicRules (fun _ h => by cases h) (by kernel_rfl) (fun _ h => by cases h) basicRules_row_tie rfl ⟨rfl, rfl⟩ (by kernel_rfl) rfl
    (fun f fn hf hfn => by
      obtain rfl : f = 6 := Option.some.inj ((show Tryd.prog.funcNamed "planimeter/planimeterlaw28.BasicRules" = some 6 by kernel_rfl).symm.trans hf) |>.symm
      obtain rfl : fn = Tryd.f6 := (Option.some.inj (Tryd.func6.symm.trans hfn)).symm
      exact ⟨by kernel_rfl, fun j t ht => by
        rw [Tryd.params6] at ht
        have hm : t ∈ [22, 22, 5] := by simpa using Array.mem_of_getElem? ht
        have hall : ([22, 22, 5].all fun u => !Tryd.prog.wantsStandIn u) = true := by kernel_rfl
        exact (show Tryd.prog.wantsStandIn t = false by simpa using List.all_eq_true.1 hall t hm)⟩)
    (by kernel_rfl)
#print axioms card_BasicRules
end Go.Proofs.YtejmlngnpekagaaDoor
