/- For every input, CompileFolds returns true. -/
import Derived.Test.YtkapabohpfkcoaaDoorL34b
import Derived.Test.YtkapabohpfkcoaaDoorCodR
import Derived.Test.YtkapabohpfkcoaaDoorCards
import Derived.Test.YtkapabohpfkcoaaDoorTie
import Derived.SevenTiedAt
set_option linter.unusedSimpArgs false
set_option linter.unusedVariables false
namespace Go.Proofs.YtkapabohpfkcoaaDoor
open Go.ChangeShapes Go.WideShapes Go.ChangeAt Go.RowKit E
set_option maxRecDepth 100000 in
theorem compileFolds_lifted (os : Os) (started : os.Started) (H : Type) (enc : TypeId × Value → H) :
    ReturnsInHanded {} Tryd.checked os 7 .any (fun w args => (Rows.compileFoldsSpec.pre enc Tryd.prog Tryd.f7 [] false w args ∧ laidMetH Tryd.prog lay34 w) ∧ sizedMet enc Tryd.prog Tryd.f7 (OpenSpec.ofChange Rows.compileFoldsSpec) false w args)
      (Rows.compileFoldsSpec.post enc Tryd.prog Tryd.f7 false true false false) := by
  refine lifted_laid started [] (by kernel_rfl) Tryd.func7
    (ChangeSpec.witness_shaped (enc := enc) (C := Tryd.checked) (os := os) (X := fun w _ => laidMetH Tryd.prog lay34 w) false (World.doorLaid Tryd.prog 400 os) #[.agg #[.string ⟨#[]⟩, .bool false, .slice none 0 0]] 8 rfl (World.shaped_of_RefB (by kernel_rfl) (by kernel_rfl)) (by kernel_rfl) (by kernel_rfl) (by kernel_rfl) (door_met os _))
    rfl ?_ _ (by kernel_rfl) Tryd.underlying4 (by kernel_rfl) (by kernel_rfl) ?_
  · rw [Tryd.params7]
    intro ds hds
    match ds, hds with
    | [d0], _ => exact ⟨rfl, rfl, rfl⟩
  · rw [Tryd.params7]
    intro xs hx
    match xs, hx with
    | [x0], ⟨h0, _⟩ =>
      obtain ⟨c, rfl⟩ := argC h0
      simp only [argVs, argV_C]
      exact l_folds c

theorem compileFolds_row : Rows.CompileFoldsSaid :=
  OpenClaim.holds_of_wide 7 Tryd.f7 rfl rfl rfl rfl rfl rfl rfl ⟨rfl, rfl, rfl, rfl, rfl⟩ rfl rfl rfl rfl rfl (by kernel_rfl) Tryd.func7 (by kernel_rfl)
    (of_decide_eq_true (by kernel_rfl)) (by unfold Func.isWrapper; first | (rw [if_pos (by decide +kernel)]; kernel_rfl) | (rw [if_neg (by decide +kernel)]; exact ⟨rfl, rfl⟩))
    (fun os started H enc _ => compileFolds_lifted os started H enc)

theorem compileFolds_holds : Rows.CompileFoldsCardSaid :=
  Claim7.holds_tied_plain_at .later [] [.data, .data, .data] true (true, "1807d5a33dfb15976345f1e187f85a10ece91d6abb6db9bcf81d475b15714bab") true
    compileFolds_row (fun _ h => by cases h) (by kernel_rfl) (fun _ h => by cases h) compileFolds_row_tie rfl ⟨rfl, rfl⟩ (by kernel_rfl) rfl
    (fun f fn hf hfn => by
      obtain rfl : f = 7 := Option.some.inj ((show Tryd.prog.funcNamed "tallystone/tallystonelaw34.CompileFolds" = some 7 by kernel_rfl).symm.trans hf) |>.symm
      obtain rfl : fn = Tryd.f7 := (Option.some.inj (Tryd.func7.symm.trans hfn)).symm
      exact ⟨by kernel_rfl, fun j t ht => by
        rw [Tryd.params7] at ht
        have hall : (([53] : List TypeId).all fun u => !Tryd.prog.wantsStandIn u) = true := by kernel_rfl
        exact (show Tryd.prog.wantsStandIn t = false by simpa using List.all_eq_true.1 hall t (by simpa using Array.mem_of_getElem? ht))⟩)
    (by kernel_rfl)
end Go.Proofs.YtkapabohpfkcoaaDoor
