/- For every input, SyntaxNormal returns true. -/
import Derived.Test.YtoepkeppgfbplaaDoorRon
import Derived.Test.YtoepkeppgfbplaaDoorLno
import Derived.Test.YtoepkeppgfbplaaDoorCards
import Derived.SevenTiedAt
set_option linter.unusedSimpArgs false
set_option linter.unusedVariables false
namespace Go.Proofs.YtoepkeppgfbplaaDoor
open Go.ChangeShapes Go.WideShapes Go.ChangeAt Go.RowKit E
set_option maxRecDepth 100000 in
theorem syntaxNormal_lifted (os : Os) (started : os.Started) (H : Type) (enc : TypeId × Value → H) :
  ReturnsInHanded {} Tryd.checked os 7 .any (fun w args => (Rows.syntaxNormalSpec.pre enc Tryd.prog Tryd.f7 [] false w args ∧ laidMetH Tryd.prog lay4 w) ∧ sizedMet enc Tryd.prog Tryd.f7 (OpenSpec.ofChange Rows.syntaxNormalSpec) false w args)
   (Rows.syntaxNormalSpec.post enc Tryd.prog Tryd.f7 false true false false) := by
 refine lifted_1s started lay4 lay_of [] (by kernel_rfl) Tryd.func7
  (ChangeSpec.witness_shaped (enc := enc) (C := Tryd.checked) (os := os) (X := fun w _ => laidMetH Tryd.prog lay4 w) false (World.doorLaid Tryd.prog 400 os) #[.string ⟨#[]⟩] 8 rfl (World.shaped_of_RefB (by kernel_rfl) (by kernel_rfl)) (by kernel_rfl) (by kernel_rfl) (by kernel_rfl) (door_met os _))
  rfl ?_ _ (by kernel_rfl) Tryd.underlying4 9 Tryd.underlying9 Tryd.params7 (by kernel_rfl) ?_
 ·rw [Tryd.params7]
  intro ds hds
  match ds, hds with
  | [d0], _ => exact ⟨rfl, rfl, rfl⟩
 ·intro a ha
  exact l_normal a

theorem syntaxNormal_row : Rows.SyntaxNormalSaid :=
 OpenClaim.holds_of_wide 7 Tryd.f7 rfl rfl rfl rfl rfl rfl rfl ⟨rfl, rfl, rfl, rfl, rfl⟩ rfl rfl rfl rfl rfl (by kernel_rfl) Tryd.func7 (by kernel_rfl)
  (of_decide_eq_true (by kernel_rfl)) (by unfold Func.isWrapper; first | (rw [if_pos (by decide +kernel)]; kernel_rfl) | (rw [if_neg (by decide +kernel)]; exact ⟨rfl, rfl⟩))
  (fun os started H enc _ => syntaxNormal_lifted os started H enc)

theorem syntaxNormal_holds : Rows.SyntaxNormalCardSaid :=
 Claim7.holds_tied_plain_at .later [] [.data, .data, .data, .listed, .data] true (true, "5cb2f0490a62456188abefb3df9ca31b20c9ed86a88f721b5184bae4003d8712") false
  syntaxNormal_row (fun _ h => by cases h) (by kernel_rfl) (fun _ h => by cases h) syntaxNormal_row_tie rfl ⟨rfl, rfl⟩ (by kernel_rfl) rfl
  (fun f fn hf hfn => by
   obtain rfl : f = 7 := Option.some.inj ((show Tryd.prog.funcNamed "tallystone/tallystonelaw32.SyntaxNormal" = some 7 by kernel_rfl).symm.trans hf) |>.symm
   obtain rfl : fn = Tryd.f7 := (Option.some.inj (Tryd.func7.symm.trans hfn)).symm
   exact ⟨by kernel_rfl, fun j t ht => by
    rw [Tryd.params7] at ht
    have hall : (([9] : List TypeId).all fun u => !Tryd.prog.wantsStandIn u) = true := by kernel_rfl
    exact (show Tryd.prog.wantsStandIn t = false by simpa using List.all_eq_true.1 hall t (by simpa using Array.mem_of_getElem? ht))⟩)
  (by kernel_rfl)
end Go.Proofs.YtoepkeppgfbplaaDoor
