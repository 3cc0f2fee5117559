/- For every input, SyntaxRoundTrip returns true. -/
import Derived.Test.YtoepkeppgfbplaaDoorShP
import Derived.Test.YtoepkeppgfbplaaDoorLrt
import Derived.Test.YtoepkeppgfbplaaDoorRowL
import Derived.Test.YtoepkeppgfbplaaDoorLay4
import Derived.Test.YtoepkeppgfbplaaDoorCards
import Derived.Test.YtoepkeppgfbplaaDoorTie
import Derived.SevenTiedAt
set_option linter.unusedSimpArgs false
set_option linter.unusedVariables false
namespace Go.Proofs.YtoepkeppgfbplaaDoor
open Go.ChangeShapes Go.WideShapes Go.ChangeAt Go.RowKit E
set_option maxRecDepth 100000 in
theorem syntaxRoundTrip_lifted (os : Os) (started : os.Started) (H : Type) (enc : TypeId × Value → H) :
  ReturnsInHanded {} Tryd.checked os 6 .any (fun w args => (Rows.syntaxRoundTripSpec.pre enc Tryd.prog Tryd.f6 [] false w args ∧ laidMetH Tryd.prog lay4 w) ∧ sizedMet enc Tryd.prog Tryd.f6 (OpenSpec.ofChange Rows.syntaxRoundTripSpec) false w args)
   (Rows.syntaxRoundTripSpec.post enc Tryd.prog Tryd.f6 false true false false) := by
 refine lifted_laid started lay4 lay_of [] (by kernel_rfl) Tryd.func6
  (ChangeSpec.witness_shaped (enc := enc) (C := Tryd.checked) (os := os) (X := fun w _ => laidMetH Tryd.prog lay4 w) false (World.doorLaid Tryd.prog 400 os) #[.slice none 0 0] 8 rfl (World.shaped_of_RefB (by kernel_rfl) (by kernel_rfl)) (by kernel_rfl) (by kernel_rfl) (by kernel_rfl) (door_met os _))
  rfl ?_ _ (by kernel_rfl) Tryd.underlying4 [23, 49, 47, 46, 44, 42, 3, 9, 4] (by kernel_rfl) (by kernel_rfl) (by kernel_rfl) ?_
 ·rw [Tryd.params6]
  intro ds hds
  match ds, hds with
  | [d0], _ => exact ⟨rfl, rfl, rfl⟩
 ·rw [Tryd.params6]
  intro xs hx
  match xs, hx with
  | [x0], ⟨h0, _⟩ =>
   obtain ⟨a0, e0, w0⟩ := arg_Prg h0
   simp only [argVs]
   rw [e0]
   exact l_round a0

theorem syntaxRoundTrip_row : Rows.SyntaxRoundTripSaid :=
 OpenClaim.holds_of_wide 6 Tryd.f6 rfl rfl rfl rfl rfl rfl rfl ⟨rfl, rfl, rfl, rfl, rfl⟩ rfl rfl rfl rfl rfl (by kernel_rfl) Tryd.func6 (by kernel_rfl)
  (of_decide_eq_true (by kernel_rfl)) (by unfold Func.isWrapper; first | (rw [if_pos (by decide +kernel)]; kernel_rfl) | (rw [if_neg (by decide +kernel)]; exact ⟨rfl, rfl⟩))
  (fun os started H enc _ => syntaxRoundTrip_lifted os started H enc)

theorem syntaxRoundTrip_holds : Rows.SyntaxRoundTripCardSaid :=
 Claim7.holds_tied_plain_at .later [] [.data, .data, .data, .listed, .data] true (true, "5cb2f0490a62456188abefb3df9ca31b20c9ed86a88f721b5184bae4003d8712") false
  syntaxRoundTrip_row (fun _ h => by cases h) (by kernel_rfl) (fun _ h => by cases h) syntaxRoundTrip_row_tie rfl ⟨rfl, rfl⟩ (by kernel_rfl) rfl
  (fun f fn hf hfn => by
   obtain rfl : f = 6 := Option.some.inj ((show Tryd.prog.funcNamed "tallystone/tallystonelaw32.SyntaxRoundTrip" = some 6 by kernel_rfl).symm.trans hf) |>.symm
   obtain rfl : fn = Tryd.f6 := (Option.some.inj (Tryd.func6.symm.trans hfn)).symm
   exact ⟨by kernel_rfl, fun j t ht => by
    rw [Tryd.params6] at ht
    have hall : (([23] : List TypeId).all fun u => !Tryd.prog.wantsStandIn u) = true := by kernel_rfl
    exact (show Tryd.prog.wantsStandIn t = false by simpa using List.all_eq_true.1 hall t (by simpa using Array.mem_of_getElem? ht))⟩)
  (by kernel_rfl)
end Go.Proofs.YtoepkeppgfbplaaDoor
