/- For every input, SyntaxRejects returns true. -/
import Derived.Test.YtoepkeppgfbplaaDoorRtw
import Derived.Test.YtoepkeppgfbplaaDoorLrj
import Derived.Test.YtoepkeppgfbplaaDoorCards
import Derived.SevenTiedAt
set_option linter.unusedSimpArgs false
set_option linter.unusedVariables false
namespace Go.Proofs.YtoepkeppgfbplaaDoor
open Go.ChangeShapes Go.WideShapes Go.ChangeAt Go.RowKit E
set_option maxRecDepth 100000 in
theorem syntaxRejects_lifted (os : Os) (started : os.Started) (H : Type) (enc : TypeId × Value → H) :
    ReturnsInHanded {} Tryd.checked os 4 .any (fun w args => (Rows.syntaxRejectsSpec.pre enc Tryd.prog Tryd.f4 [] false w args ∧ laidMetH Tryd.prog lay4 w) ∧ sizedMet enc Tryd.prog Tryd.f4 (OpenSpec.ofChange Rows.syntaxRejectsSpec) false w args)
      (Rows.syntaxRejectsSpec.post enc Tryd.prog Tryd.f4 false true false false) := by
  refine lifted_2s started lay4 lay_of [] (by kernel_rfl) Tryd.func4
    (ChangeSpec.witness_shaped (enc := enc) (C := Tryd.checked) (os := os) (X := fun w _ => laidMetH Tryd.prog lay4 w) false (World.doorLaid Tryd.prog 400 os) #[.string ⟨#[]⟩, .string ⟨#[]⟩] 8 rfl (World.shaped_of_RefB (by kernel_rfl) (by kernel_rfl)) (by kernel_rfl) (by kernel_rfl) (by kernel_rfl) (door_met os _))
    rfl ?_ _ (by kernel_rfl) Tryd.underlying4 9 Tryd.underlying9 Tryd.params4 (by kernel_rfl) ?_
  · rw [Tryd.params4]
    intro ds hds
    match ds, hds with
    | [d0, d1], _ => exact ⟨rfl, rfl, rfl⟩
  · intro a b ha hb
    exact l_rejects a b

theorem syntaxRejects_row : Rows.SyntaxRejectsSaid :=
  OpenClaim.holds_of_wide 4 Tryd.f4 rfl rfl rfl rfl rfl rfl rfl ⟨rfl, rfl, rfl, rfl, rfl⟩ rfl rfl rfl rfl rfl (by kernel_rfl) Tryd.func4 (by kernel_rfl)
    (of_decide_eq_true (by kernel_rfl)) (by unfold Func.isWrapper; first | (rw [if_pos (by decide +kernel)]; kernel_rfl) | (rw [if_neg (by decide +kernel)]; exact ⟨rfl, rfl⟩))
    (fun os started H enc _ => syntaxRejects_lifted os started H enc)

theorem syntaxRejects_holds : Rows.SyntaxRejectsCardSaid :=
  Claim7.holds_tied_plain_at .later [] [.data, .data, .data, .listed, .data] true (true, "5cb2f0490a62456188abefb3df9ca31b20c9ed86a88f721b5184bae4003d8712") false
    syntaxRejects_row (fun _ h => by cases h) (by kernel_rfl) (fun _ h => by cases h) syntaxRejects_row_tie rfl ⟨rfl, rfl⟩ (by kernel_rfl) rfl
    (fun f fn hf hfn => by
      obtain rfl : f = 4 := Option.some.inj ((show Tryd.prog.funcNamed "tallystone/tallystonelaw32.SyntaxRejects" = some 4 by kernel_rfl).symm.trans hf) |>.symm
      obtain rfl : fn = Tryd.f4 := (Option.some.inj (Tryd.func4.symm.trans hfn)).symm
      exact ⟨by kernel_rfl, fun j t ht => by
        rw [Tryd.params4] at ht
        have hall : (([9, 9] : List TypeId).all fun u => !Tryd.prog.wantsStandIn u) = true := by kernel_rfl
        exact (show Tryd.prog.wantsStandIn t = false by simpa using List.all_eq_true.1 hall t (by simpa using Array.mem_of_getElem? ht))⟩)
    (by kernel_rfl)
end Go.Proofs.YtoepkeppgfbplaaDoor
