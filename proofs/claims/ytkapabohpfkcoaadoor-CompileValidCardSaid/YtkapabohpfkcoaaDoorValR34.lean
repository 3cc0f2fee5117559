/- For every input, CompileValid returns true. -/
import Derived.Test.YtkapabohpfkcoaaDoorL34b
import Derived.Test.YtkapabohpfkcoaaDoorCodR
import Derived.Test.YtkapabohpfkcoaaDoorCards
import Derived.Test.YtkapabohpfkcoaaDoorTie
import Derived.SevenTiedAt
set_option linter.unusedSimpArgs false
set_option linter.unusedVariables false
namespace Go.Proofs.YtkapabohpfkcoaaDoor
open Go.ChangeShapes Go.WideShapes Go.ChangeAt Go.RowKit E
set_option maxRecDepth 100000 in
theorem compileValid_lifted (os : Os) (started : os.Started) (H : Type) (enc : TypeId × Value → H) :
    ReturnsInHanded {} Tryd.checked os 6 .any (fun w args => (Rows.compileValidSpec.pre enc Tryd.prog Tryd.f6 [] false w args ∧ laidMetH Tryd.prog lay34 w) ∧ sizedMet enc Tryd.prog Tryd.f6 (OpenSpec.ofChange Rows.compileValidSpec) false w args)
      (Rows.compileValidSpec.post enc Tryd.prog Tryd.f6 false true false false) := by
  refine lifted_laid started [] (by kernel_rfl) Tryd.func6
    (ChangeSpec.witness_shaped (enc := enc) (C := Tryd.checked) (os := os) (X := fun w _ => laidMetH Tryd.prog lay34 w) false (World.doorLaid Tryd.prog 400 os) #[.agg #[.string ⟨#[]⟩, .bool false, .slice none 0 0], .agg #[.string ⟨#[]⟩, .bool false, .slice none 0 0]] 8 rfl (World.shaped_of_RefB (by kernel_rfl) (by kernel_rfl)) (by kernel_rfl) (by kernel_rfl) (by kernel_rfl) (door_met os _))
    rfl ?_ _ (by kernel_rfl) Tryd.underlying4 (by kernel_rfl) (by kernel_rfl) ?_
  · rw [Tryd.params6]
    intro ds hds
    match ds, hds with
    | [d0, d1], _ => exact ⟨rfl, rfl, rfl⟩
  · rw [Tryd.params6]
    intro xs hx
    match xs, hx with
    | [x0, x1], ⟨h0, h1, _⟩ =>
      obtain ⟨c, rfl⟩ := argC h0
      obtain ⟨d, rfl⟩ := argC h1
      simp only [argVs, argV_C]
      exact l_valid c d

theorem compileValid_row : Rows.CompileValidSaid :=
  OpenClaim.holds_of_wide 6 Tryd.f6 rfl rfl rfl rfl rfl rfl rfl ⟨rfl, rfl, rfl, rfl, rfl⟩ rfl rfl rfl rfl rfl (by kernel_rfl) Tryd.func6 (by kernel_rfl)
    (of_decide_eq_true (by kernel_rfl)) (by unfold Func.isWrapper; first | (rw [if_pos (by decide +kernel)]; kernel_rfl) | (rw [if_neg (by decide +kernel)]; exact ⟨rfl, rfl⟩))
    (fun os started H enc _ => compileValid_lifted os started H enc)

theorem compileValid_holds : Rows.CompileValidCardSaid :=
  Claim7.holds_tied_plain_at .later [] [.data, .data, .data] true (true, "1807d5a33dfb15976345f1e187f85a10ece91d6abb6db9bcf81d475b15714bab") true
    compileValid_row (fun _ h => by cases h) (by kernel_rfl) (fun _ h => by cases h) compileValid_row_tie rfl ⟨rfl, rfl⟩ (by kernel_rfl) rfl
    (fun f fn hf hfn => by
      obtain rfl : f = 6 := Option.some.inj ((show Tryd.prog.funcNamed "tallystone/tallystonelaw34.CompileValid" = some 6 by kernel_rfl).symm.trans hf) |>.symm
      obtain rfl : fn = Tryd.f6 := (Option.some.inj (Tryd.func6.symm.trans hfn)).symm
      exact ⟨by kernel_rfl, fun j t ht => by
        rw [Tryd.params6] at ht
        have hall : (([53, 53] : List TypeId).all fun u => !Tryd.prog.wantsStandIn u) = true := by kernel_rfl
        exact (show Tryd.prog.wantsStandIn t = false by simpa using List.all_eq_true.1 hall t (by simpa using Array.mem_of_getElem? ht))⟩)
    (by kernel_rfl)
end Go.Proofs.YtkapabohpfkcoaaDoor
