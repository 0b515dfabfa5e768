/- For every input that reads as data, with the listed table of math/bits as the program's text lays it, the law WholeFaithful returns true and leaves its arguments as they were: the row, and its tied card. -/
import Derived.Test.YtfkgaldbcngliaaGreatDoorM5
import Derived.Test.YtfkgaldbcngliaaGreatDoorM1
import Derived.Test.YtfkgaldbcngliaaGreatDoorTie
import Derived.Test.YtfkgaldbcngliaaGreatDoorCards
open Go PG Go.Proofs Go.RowKit Go.ChangeShapes Go.WideShapes Go.ChangeAt
set_option maxRecDepth 100000
set_option linter.unusedSimpArgs false
set_option linter.unusedVariables false
namespace Go.Proofs.YtfkgaldbcngliaaGreatDoor
theorem own_WholeFaithful:ownKnob Tryz.prog.godebug=none:=by kernel_rfl
theorem door_WholeFaithful (os : Os) (args : Array Value) : laidMetH Tryz.prog [("math/bits.deBruijn64tab", Rows.laid_math_bits_deBruijn64tab)] ((World.doorLaid Tryz.prog 14 os).forCall (fun _ _ => 0) ⟨#[], args, []⟩).memory :=
 laidMetH_of_parts3 (fuel:=8) (laidMet_of_run' 8 (by kernel_rfl) (by kernel_rfl)) (by kernel_rfl) (by kernel_rfl)
theorem fn_WholeFaithful (H:Type):∀ds:List (DataW H),ds.length=(Tryz.f8).params.toList.length→Rows.wholeFaithfulSpec.fn H ds={ results:=[.lit (.bool true)],args:=ds }:=by
 intro ds h
 have h':ds.length=3:=h
 match ds,h' with
 | [d1,d2,d3],_=>rfl
theorem lifted_WholeFaithful (os:Os) (started:os.Started) (H:Type) (enc:TypeId × Value→H) :
  ReturnsInHanded {} Tryz.checked os 8 .any (fun w args => (Rows.wholeFaithfulSpec.pre enc Tryz.prog Tryz.f8 [] false w args ∧ laidMetH Tryz.prog [("math/bits.deBruijn64tab", Rows.laid_math_bits_deBruijn64tab)] w) ∧ sizedMet enc Tryz.prog Tryz.f8 (OpenSpec.ofChange Rows.wholeFaithfulSpec) false w args)
   (Rows.wholeFaithfulSpec.post enc Tryz.prog Tryz.f8 false true false false):=by
 refine returnsInHanded_of_change_and (C := Tryz.checked) (X := fun w _ => laidMetH Tryz.prog [("math/bits.deBruijn64tab", Rows.laid_math_bits_deBruijn64tab)] w) (fun _ _ _ hh h => h.of_heap hh) own_WholeFaithful started (by kernel_rfl) Tryz.func8
  (ChangeSpec.witness_shaped (enc := enc) (C := Tryz.checked) (os := os) (X := fun w _ => laidMetH Tryz.prog [("math/bits.deBruijn64tab", Rows.laid_math_bits_deBruijn64tab)] w) false (World.doorLaid Tryz.prog 14 os) #[.agg #[.int .i64 0, .int .u64 0, .int .u64 0, .int .i64 0], .int .u8 0, .int .u8 0] 8 rfl (World.shaped_of_RefB (by kernel_rfl) (by kernel_rfl)) (by kernel_rfl) (by kernel_rfl) (by kernel_rfl) (door_WholeFaithful os _)) ?_
 intro W base args ds gs before hval hW _ _ hL _
 exact law_contract (E:=E) (f:=8) (fn:=Tryz.f8) (s:=Rows.wholeFaithfulSpec) (tb:=4) (Qs:=[qOp,qU8,qU8]) (by kernel_rfl) (by kernel_rfl) rfl (by kernel_rfl) rfl fn_WholeFaithful Tryz.func8 (by decide +kernel) (by kernel_rfl)
  (fun w=>⟨a_op w (ti:=3) (tu:=22) (tn:=2) (by kernel_rfl) (by kernel_rfl) (by kernel_rfl) (by kernel_rfl) (by kernel_rfl) (by kernel_rfl) (by kernel_rfl) (by kernel_rfl),a_u8 w (by kernel_rfl),a_u8 w (by kernel_rfl),trivial⟩) law_WholeFaithful hval hW (globals_met hL)
theorem row_WholeFaithful:Rows.WholeFaithfulSaid:=
 OpenClaim.holds_of_wide 8 Tryz.f8 rfl rfl rfl rfl rfl rfl rfl ⟨rfl,rfl,rfl,rfl,rfl⟩ rfl rfl rfl rfl rfl (by kernel_rfl) Tryz.func8 (by kernel_rfl)
  (of_decide_eq_true (by kernel_rfl)) (by unfold Func.isWrapper;first | (rw [if_pos (by decide +kernel)];kernel_rfl) | (rw [if_neg (by decide +kernel)];exact ⟨rfl,rfl⟩))
  (fun os started H enc _=>lifted_WholeFaithful os started H enc)
theorem card_WholeFaithful:Rows.WholeFaithfulCardSaid:=
 Claim7.holds_tied_plain_at .later [] [.data] true (true, "21b554fa0bed690d9766a51cd930ee12d19f02023e2377f0cfcc1dc672b53ffa") false
  row_WholeFaithful (fun _ h=>by cases h) (by kernel_rfl) (fun _ h=>by cases h) wholeFaithful_row_tie rfl ⟨rfl,rfl⟩ (by kernel_rfl) rfl
  (fun f fn hf hfn=>by
   obtain rfl : f = 8 := Option.some.inj ((show Tryz.prog.funcNamed "planimeter/planimetertop.WholeFaithful" = some 8 by kernel_rfl).symm.trans hf) |>.symm
   obtain rfl:fn=Tryz.f8:=(Option.some.inj (Tryz.func8.symm.trans hfn)).symm
   exact ⟨by kernel_rfl,fun j t ht=>by
    rw [Tryz.params8] at ht
    have hm:t∈[61,5,5]:=by simpa using Array.mem_of_getElem? ht
    have hall:([61,5,5].all fun u=>!Tryz.prog.wantsStandIn u)=true:=by kernel_rfl
    exact (show Tryz.prog.wantsStandIn t=false by simpa using List.all_eq_true.1 hall t hm)⟩)
  (by kernel_rfl)
#print axioms card_WholeFaithful
end Go.Proofs.YtfkgaldbcngliaaGreatDoor
