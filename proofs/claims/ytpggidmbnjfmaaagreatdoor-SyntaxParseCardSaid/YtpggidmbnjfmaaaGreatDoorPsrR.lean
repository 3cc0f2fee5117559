/- For every input, SyntaxParse returns true. -/
import Derived.Test.YtpggidmbnjfmaaaGreatDoorRon
import Derived.Test.YtpggidmbnjfmaaaGreatDoorQf
import Derived.Test.YtpggidmbnjfmaaaGreatDoorCards
import Derived.SevenTiedAt
set_option linter.unusedSimpArgs false
set_option linter.unusedVariables false
namespace Go.Proofs.YtpggidmbnjfmaaaGreatDoor
open Go.ChangeShapes Go.WideShapes Go.ChangeAt Go.RowKit E
set_option maxRecDepth 100000 in
theorem syntaxParse_lifted (os : Os) (started : os.Started) (H : Type) (enc : TypeId × Value → H) :
  ReturnsInHanded {} Tryz.checked os 4 .any (fun w args => (Rows.syntaxParseSpec.pre enc Tryz.prog Tryz.f4 [] false w args ∧ laidMetH Tryz.prog lay4 w) ∧ sizedMet enc Tryz.prog Tryz.f4 (OpenSpec.ofChange Rows.syntaxParseSpec) false w args)
   (Rows.syntaxParseSpec.post enc Tryz.prog Tryz.f4 false true false false) := by
 refine lifted_1s started lay4 lay_of [] (by kernel_rfl) Tryz.func4
  (ChangeSpec.witness_shaped (enc := enc) (C := Tryz.checked) (os := os) (X := fun w _ => laidMetH Tryz.prog lay4 w) false (World.doorLaid Tryz.prog 400 os) #[.string ⟨#[]⟩] 8 rfl (World.shaped_of_RefB (by kernel_rfl) (by kernel_rfl)) (by kernel_rfl) (by kernel_rfl) (by kernel_rfl) (door_met os _))
  rfl ?_ _ (by kernel_rfl) Tryz.underlying4 9 Tryz.underlying9 Tryz.params4 (by kernel_rfl) ?_
 ·rw [Tryz.params4]
  intro ds hds
  match ds, hds with
  | [d0], _ => exact ⟨rfl, rfl, rfl⟩
 ·intro a ha
  exact l_parse a

theorem syntaxParse_row : Rows.SyntaxParseSaid :=
 OpenClaim.holds_of_wide 4 Tryz.f4 rfl rfl rfl rfl rfl rfl rfl ⟨rfl, rfl, rfl, rfl, rfl⟩ rfl rfl rfl rfl rfl (by kernel_rfl) Tryz.func4 (by kernel_rfl)
  (of_decide_eq_true (by kernel_rfl)) (by unfold Func.isWrapper; first | (rw [if_pos (by decide +kernel)]; kernel_rfl) | (rw [if_neg (by decide +kernel)]; exact ⟨rfl, rfl⟩))
  (fun os started H enc _ => syntaxParse_lifted os started H enc)

theorem syntaxParse_holds : Rows.SyntaxParseCardSaid :=
 Claim7.holds_tied_plain_at .later [] [.data, .data, .data, .listed, .data] true (true, "f92b43cb487520b74412040b5fc281fda2bfab0aa271e9c7f49857da23211901") true
  syntaxParse_row (fun _ h => by cases h) (by kernel_rfl) (fun _ h => by cases h) syntaxParse_row_tie rfl ⟨rfl, rfl⟩ (by kernel_rfl) rfl
  (fun f fn hf hfn => by
   obtain rfl : f = 4 := Option.some.inj ((show Tryz.prog.funcNamed "tallystone/tallystonelaw32.SyntaxParse" = some 4 by kernel_rfl).symm.trans hf) |>.symm
   obtain rfl : fn = Tryz.f4 := (Option.some.inj (Tryz.func4.symm.trans hfn)).symm
   exact ⟨by kernel_rfl, fun j t ht => by
    rw [Tryz.params4] at ht
    have hall : (([9] : List TypeId).all fun u => !Tryz.prog.wantsStandIn u) = true := by kernel_rfl
    exact (show Tryz.prog.wantsStandIn t = false by simpa using List.all_eq_true.1 hall t (by simpa using Array.mem_of_getElem? ht))⟩)
  (by kernel_rfl)
end Go.Proofs.YtpggidmbnjfmaaaGreatDoor
