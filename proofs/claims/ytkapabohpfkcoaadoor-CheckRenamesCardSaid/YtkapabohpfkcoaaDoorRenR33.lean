/- For every input, CheckRenames returns true. -/
import Derived.Test.YtkapabohpfkcoaaDoorShP
import Derived.Test.YtkapabohpfkcoaaDoorLrn
import Derived.Test.YtkapabohpfkcoaaDoorLay33
import Derived.Test.YtkapabohpfkcoaaDoorCards
import Derived.Test.YtkapabohpfkcoaaDoorTie
import Derived.SevenTiedAt
set_option linter.unusedSimpArgs false
set_option linter.unusedVariables false
namespace Go.Proofs.YtkapabohpfkcoaaDoor
open Go.ChangeShapes Go.WideShapes Go.ChangeAt Go.RowKit E
set_option maxRecDepth 100000 in
theorem checkRenames_lifted (os : Os) (started : os.Started) (H : Type) (enc : TypeId × Value → H) :
    ReturnsInHanded {} Tryd.checked os 10 .any (fun w args => (Rows.checkRenamesSpec.pre enc Tryd.prog Tryd.f10 [] false w args ∧ laidMetH Tryd.prog lay33 w) ∧ sizedMet enc Tryd.prog Tryd.f10 (OpenSpec.ofChange Rows.checkRenamesSpec) false w args)
      (Rows.checkRenamesSpec.post enc Tryd.prog Tryd.f10 false true false false) := by
  refine lifted_laid started lay33 lay_of [] (by kernel_rfl) Tryd.func10
    (ChangeSpec.witness_shaped (enc := enc) (C := Tryd.checked) (os := os) (X := fun w _ => laidMetH Tryd.prog lay33 w) false (World.doorLaid Tryd.prog 400 os) #[.slice none 0 0, .slice none 0 0, .slice none 0 0] 8 rfl (World.shaped_of_RefB (by kernel_rfl) (by kernel_rfl)) (by kernel_rfl) (by kernel_rfl) (by kernel_rfl) (door_met os _))
    rfl ?_ _ (by kernel_rfl) Tryd.underlying4 [41, 39, 37, 36, 32, 30, 3, 9, 4, 70, 151, 33] (by kernel_rfl) (by kernel_rfl) (by kernel_rfl) ?_
  · rw [Tryd.params10]
    intro ds hds
    match ds, hds with
    | [d0, d1, d2], _ => exact ⟨rfl, rfl, rfl⟩
  · rw [Tryd.params10]
    intro xs hx
    match xs, hx with
    | [x0, x1, x2], ⟨h0, h1, h2, _⟩ =>
      obtain ⟨a0, e0, w0⟩ := arg_Prg h0
      obtain ⟨a1, e1, w1⟩ := arg_AL h1
      obtain ⟨a2, e2, w2⟩ := arg_SL h2
      simp only [argVs]
      rw [e0, e1, e2]
      exact l_renames a0 a1 a2 (fun r hr => Rul.ok_of (w0 r hr)) (fun s hs => by simpa [inL, maxLen] using w2 s hs)

theorem checkRenames_row : Rows.CheckRenamesSaid :=
  OpenClaim.holds_of_wide 10 Tryd.f10 rfl rfl rfl rfl rfl rfl rfl ⟨rfl, rfl, rfl, rfl, rfl⟩ rfl rfl rfl rfl rfl (by kernel_rfl) Tryd.func10 (by kernel_rfl)
    (of_decide_eq_true (by kernel_rfl)) (by unfold Func.isWrapper; first | (rw [if_pos (by decide +kernel)]; kernel_rfl) | (rw [if_neg (by decide +kernel)]; exact ⟨rfl, rfl⟩))
    (fun os started H enc _ => checkRenames_lifted os started H enc)

theorem checkRenames_holds : Rows.CheckRenamesCardSaid :=
  Claim7.holds_tied_plain_at .later [] [.listed, .data] true (true, "1807d5a33dfb15976345f1e187f85a10ece91d6abb6db9bcf81d475b15714bab") true
    checkRenames_row (fun _ h => by cases h) (by kernel_rfl) (fun _ h => by cases h) checkRenames_row_tie rfl ⟨rfl, rfl⟩ (by kernel_rfl) rfl
    (fun f fn hf hfn => by
      obtain rfl : f = 10 := Option.some.inj ((show Tryd.prog.funcNamed "tallystone/tallystonelaw33.CheckRenames" = some 10 by kernel_rfl).symm.trans hf) |>.symm
      obtain rfl : fn = Tryd.f10 := (Option.some.inj (Tryd.func10.symm.trans hfn)).symm
      exact ⟨by kernel_rfl, fun j t ht => by
        rw [Tryd.params10] at ht
        have hall : (([41, 70, 33] : List TypeId).all fun u => !Tryd.prog.wantsStandIn u) = true := by kernel_rfl
        exact (show Tryd.prog.wantsStandIn t = false by simpa using List.all_eq_true.1 hall t (by simpa using Array.mem_of_getElem? ht))⟩)
    (by kernel_rfl)
end Go.Proofs.YtkapabohpfkcoaaDoor
