/- For every input, CheckProgram returns true. -/
import Derived.Test.YtkapabohpfkcoaaDoorShP
import Derived.Test.YtkapabohpfkcoaaDoorLpg
import Derived.Test.YtkapabohpfkcoaaDoorLay33
import Derived.Test.YtkapabohpfkcoaaDoorCards
import Derived.Test.YtkapabohpfkcoaaDoorTie
import Derived.SevenTiedAt
set_option linter.unusedSimpArgs false
set_option linter.unusedVariables false
namespace Go.Proofs.YtkapabohpfkcoaaDoor
open Go.ChangeShapes Go.WideShapes Go.ChangeAt Go.RowKit E
set_option maxRecDepth 100000 in
theorem checkProgram_lifted (os : Os) (started : os.Started) (H : Type) (enc : TypeId × Value → H) :
    ReturnsInHanded {} Tryd.checked os 8 .any (fun w args => (Rows.checkProgramSpec.pre enc Tryd.prog Tryd.f8 [] false w args ∧ laidMetH Tryd.prog lay33 w) ∧ sizedMet enc Tryd.prog Tryd.f8 (OpenSpec.ofChange Rows.checkProgramSpec) false w args)
      (Rows.checkProgramSpec.post enc Tryd.prog Tryd.f8 false true false false) := by
  refine lifted_laid started lay33 lay_of [] (by kernel_rfl) Tryd.func8
    (ChangeSpec.witness_shaped (enc := enc) (C := Tryd.checked) (os := os) (X := fun w _ => laidMetH Tryd.prog lay33 w) false (World.doorLaid Tryd.prog 400 os) #[.slice none 0 0, .slice none 0 0] 8 rfl (World.shaped_of_RefB (by kernel_rfl) (by kernel_rfl)) (by kernel_rfl) (by kernel_rfl) (by kernel_rfl) (door_met os _))
    rfl ?_ _ (by kernel_rfl) Tryd.underlying4 [41, 39, 37, 36, 32, 30, 3, 9, 4, 70, 151] (by kernel_rfl) (by kernel_rfl) (by kernel_rfl) ?_
  · rw [Tryd.params8]
    intro ds hds
    match ds, hds with
    | [d0, d1], _ => exact ⟨rfl, rfl, rfl⟩
  · rw [Tryd.params8]
    intro xs hx
    match xs, hx with
    | [x0, x1], ⟨h0, h1, _⟩ =>
      obtain ⟨a0, e0, w0⟩ := arg_Prg h0
      obtain ⟨a1, e1, w1⟩ := arg_AL h1
      simp only [argVs]
      rw [e0, e1]
      exact l_program a0 a1 (fun r hr => Rul.ok_of (w0 r hr))

theorem checkProgram_row : Rows.CheckProgramSaid :=
  OpenClaim.holds_of_wide 8 Tryd.f8 rfl rfl rfl rfl rfl rfl rfl ⟨rfl, rfl, rfl, rfl, rfl⟩ rfl rfl rfl rfl rfl (by kernel_rfl) Tryd.func8 (by kernel_rfl)
    (of_decide_eq_true (by kernel_rfl)) (by unfold Func.isWrapper; first | (rw [if_pos (by decide +kernel)]; kernel_rfl) | (rw [if_neg (by decide +kernel)]; exact ⟨rfl, rfl⟩))
    (fun os started H enc _ => checkProgram_lifted os started H enc)

theorem checkProgram_holds : Rows.CheckProgramCardSaid :=
  Claim7.holds_tied_plain_at .later [] [.listed, .data] true (true, "1807d5a33dfb15976345f1e187f85a10ece91d6abb6db9bcf81d475b15714bab") true
    checkProgram_row (fun _ h => by cases h) (by kernel_rfl) (fun _ h => by cases h) checkProgram_row_tie rfl ⟨rfl, rfl⟩ (by kernel_rfl) rfl
    (fun f fn hf hfn => by
      obtain rfl : f = 8 := Option.some.inj ((show Tryd.prog.funcNamed "tallystone/tallystonelaw33.CheckProgram" = some 8 by kernel_rfl).symm.trans hf) |>.symm
      obtain rfl : fn = Tryd.f8 := (Option.some.inj (Tryd.func8.symm.trans hfn)).symm
      exact ⟨by kernel_rfl, fun j t ht => by
        rw [Tryd.params8] at ht
        have hall : (([41, 70] : List TypeId).all fun u => !Tryd.prog.wantsStandIn u) = true := by kernel_rfl
        exact (show Tryd.prog.wantsStandIn t = false by simpa using List.all_eq_true.1 hall t (by simpa using Array.mem_of_getElem? ht))⟩)
    (by kernel_rfl)
end Go.Proofs.YtkapabohpfkcoaaDoor
