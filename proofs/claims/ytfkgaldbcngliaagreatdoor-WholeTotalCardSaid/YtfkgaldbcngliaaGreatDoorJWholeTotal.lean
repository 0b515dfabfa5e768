import Derived.Test.YtfkgaldbcngliaaGreatDoorLWholeTotal
import Derived.Test.YtfkgaldbcngliaaGreatDoorGZ
import Derived.Test.YtfkgaldbcngliaaGreatDoorTie
import Derived.Test.YtfkgaldbcngliaaGreatDoorCards
open Go PG Go.Proofs Go.RowKit Go.ChangeShapes Go.WideShapes Go.ChangeAt
set_option maxRecDepth 100000
set_option linter.unusedSimpArgs false
set_option linter.unusedVariables false
namespace Go.Proofs.YtfkgaldbcngliaaGreatDoor
theorem own_WholeTotal : ownKnob Tryz.prog.godebug = none := by kernel_rfl
theorem door_WholeTotal (os : Os) (args : Array Value) : laidMetH Tryz.prog [("math/bits.deBruijn64tab", Rows.laid_math_bits_deBruijn64tab)] ((World.doorLaid Tryz.prog 14 os).forCall (fun _ _ => 0) ⟨#[], args, []⟩).memory :=
  laidMetH_of_parts3 (fuel := 8) (laidMet_of_run' 8 (by kernel_rfl) (by kernel_rfl)) (by kernel_rfl) (by kernel_rfl)
theorem fn_WholeTotal (H : Type) : ∀ ds : List (DataW H), ds.length = (Tryz.f7).params.toList.length → Rows.wholeTotalSpec.fn H ds = { results := [.lit (.bool true)], args := ds } := by
  intro ds h
  have h' : ds.length = 4 := h
  match ds, h' with
  | [d1, d2, d3, d4], _ => rfl
theorem lifted_WholeTotal (os : Os) (started : os.Started) (H : Type) (enc : TypeId × Value → H) :
    ReturnsInHanded {} Tryz.checked os 7 .any (fun w args => (Rows.wholeTotalSpec.pre enc Tryz.prog Tryz.f7 [] false w args ∧ laidMetH Tryz.prog [("math/bits.deBruijn64tab", Rows.laid_math_bits_deBruijn64tab)] w) ∧ sizedMet enc Tryz.prog Tryz.f7 (OpenSpec.ofChange Rows.wholeTotalSpec) false w args)
      (Rows.wholeTotalSpec.post enc Tryz.prog Tryz.f7 false true false false) := by
  refine returnsInHanded_of_change_and (C := Tryz.checked) (X := fun w _ => laidMetH Tryz.prog [("math/bits.deBruijn64tab", Rows.laid_math_bits_deBruijn64tab)] w) (fun _ _ _ hh h => h.of_heap hh) own_WholeTotal started (by kernel_rfl) Tryz.func7
    (ChangeSpec.witness_shaped (enc := enc) (C := Tryz.checked) (os := os) (X := fun w _ => laidMetH Tryz.prog [("math/bits.deBruijn64tab", Rows.laid_math_bits_deBruijn64tab)] w) false (World.doorLaid Tryz.prog 14 os) #[.agg #[.int .i64 0, .int .u64 0, .int .u64 0, .int .i64 0], .int .i64 0, .int .i64 0, .int .i64 0] 8 rfl (World.shaped_of_RefB (by kernel_rfl) (by kernel_rfl)) (by kernel_rfl) (by kernel_rfl) (by kernel_rfl) (door_WholeTotal os _)) ?_
  intro W base args ds gs before hval hW _ _ hL _
  exact law_contract (E := E) (f := 7) (fn := Tryz.f7) (s := Rows.wholeTotalSpec) (tb := 4) (Qs := [qOp, qInt, qInt, qInt]) (by kernel_rfl) (by kernel_rfl) rfl (by kernel_rfl) rfl fn_WholeTotal Tryz.func7 (by decide +kernel) (by kernel_rfl)
    (fun w => ⟨a_op w (ti := 3) (tu := 22) (tn := 2) (by kernel_rfl) (by kernel_rfl) (by kernel_rfl) (by kernel_rfl) (by kernel_rfl) (by kernel_rfl) (by kernel_rfl) (by kernel_rfl), a_int w (by kernel_rfl), a_int w (by kernel_rfl), a_int w (by kernel_rfl), trivial⟩) law_WholeTotal hval hW (globals_met hL)
theorem row_WholeTotal : Rows.WholeTotalSaid :=
  OpenClaim.holds_of_wide 7 Tryz.f7 rfl rfl rfl rfl rfl rfl rfl ⟨rfl, rfl, rfl, rfl, rfl⟩ rfl rfl rfl rfl rfl (by kernel_rfl) Tryz.func7 (by kernel_rfl)
    (of_decide_eq_true (by kernel_rfl)) (by unfold Func.isWrapper; first | (rw [if_pos (by decide +kernel)]; kernel_rfl) | (rw [if_neg (by decide +kernel)]; exact ⟨rfl, rfl⟩))
    (fun os started H enc _ => lifted_WholeTotal os started H enc)
theorem card_WholeTotal : Rows.WholeTotalCardSaid :=
  Claim7.holds_tied_plain_at .later [] [.data] true (true, "21b554fa0bed690d9766a51cd930ee12d19f02023e2377f0cfcc1dc672b53ffa") false
    row_WholeTotal (fun _ h => by cases h) (by kernel_rfl) (fun _ h => by cases h) wholeTotal_row_tie rfl ⟨rfl, rfl⟩ (by kernel_rfl) rfl
    (fun f fn hf hfn => by
      obtain rfl : f = 7 := Option.some.inj ((show Tryz.prog.funcNamed "planimeter/planimetertop.WholeTotal" = some 7 by kernel_rfl).symm.trans hf) |>.symm
      obtain rfl : fn = Tryz.f7 := (Option.some.inj (Tryz.func7.symm.trans hfn)).symm
      exact ⟨by kernel_rfl, fun j t ht => by
        rw [Tryz.params7] at ht
        have hm : t ∈ [61, 3, 3, 3] := by simpa using Array.mem_of_getElem? ht
        have hall : ([61, 3, 3, 3].all fun u => !Tryz.prog.wantsStandIn u) = true := by kernel_rfl
        exact (show Tryz.prog.wantsStandIn t = false by simpa using List.all_eq_true.1 hall t hm)⟩)
    (by kernel_rfl)
#print axioms card_WholeTotal
end Go.Proofs.YtfkgaldbcngliaaGreatDoor
