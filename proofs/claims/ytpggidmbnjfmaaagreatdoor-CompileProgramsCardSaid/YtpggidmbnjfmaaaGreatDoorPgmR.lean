/- For every input, CompilePrograms returns true. -/
import Derived.Test.YtpggidmbnjfmaaaGreatDoorShP
import Derived.Test.YtpggidmbnjfmaaaGreatDoorShq
import Derived.Test.YtpggidmbnjfmaaaGreatDoorRcm
import Derived.Test.YtpggidmbnjfmaaaGreatDoorRowL
import Derived.Test.YtpggidmbnjfmaaaGreatDoorLay4
import Derived.Test.YtpggidmbnjfmaaaGreatDoorCards
import Derived.Test.YtpggidmbnjfmaaaGreatDoorTie
import Derived.SevenTiedAt
set_option linter.unusedSimpArgs false
set_option linter.unusedVariables false
namespace Go.Proofs.YtpggidmbnjfmaaaGreatDoor
open Go.ChangeShapes Go.WideShapes Go.ChangeAt Go.RowKit E
set_option maxRecDepth 100000 in
theorem compilePrograms_lifted (os : Os) (started : os.Started) (H : Type) (enc : TypeId × Value → H) :
  ReturnsInHanded {} Tryz.checked os 3 .any (fun w args => (Rows.compileProgramsSpec.pre enc Tryz.prog Tryz.f3 [] false w args ∧ laidMetH Tryz.prog lay4 w) ∧ sizedMet enc Tryz.prog Tryz.f3 (OpenSpec.ofChange Rows.compileProgramsSpec) false w args)
   (Rows.compileProgramsSpec.post enc Tryz.prog Tryz.f3 false true false false) := by
 refine lifted_laid started lay4 lay_of [] (by kernel_rfl) Tryz.func3
  (ChangeSpec.witness_shaped (enc := enc) (C := Tryz.checked) (os := os) (X := fun w _ => laidMetH Tryz.prog lay4 w) false (World.doorLaid Tryz.prog 400 os) #[.slice none 0 0, .slice none 0 0] 8 rfl (World.shaped_of_RefB (by kernel_rfl) (by kernel_rfl)) (by kernel_rfl) (by kernel_rfl) (by kernel_rfl) (door_met os _))
  rfl ?_ _ (by kernel_rfl) Tryz.underlying4 [23, 66, 64, 71, 69, 67, 3, 9, 4, 24, 165] (by kernel_rfl) (by kernel_rfl) (by kernel_rfl) ?_
 ·rw [Tryz.params3]
  intro ds hds
  match ds, hds with
  | [d0, d1], _ => exact ⟨rfl, rfl, rfl⟩
 ·rw [Tryz.params3]
  intro xs hx
  match xs, hx with
  | [x0, x1], ⟨h0, h1, _⟩ =>
   obtain ⟨a0, e0, w0⟩ := arg_Prg h0
   obtain ⟨a1, e1, w1⟩ := arg_AL h1
   simp only [argVs]
   rw [e0, e1]
   exact l_programs a0 a1 (fun r hr => Rul.ok_of (w0 r hr))

theorem compilePrograms_row : Rows.CompileProgramsSaid :=
 OpenClaim.holds_of_wide 3 Tryz.f3 rfl rfl rfl rfl rfl rfl rfl ⟨rfl, rfl, rfl, rfl, rfl⟩ rfl rfl rfl rfl rfl (by kernel_rfl) Tryz.func3 (by kernel_rfl)
  (of_decide_eq_true (by kernel_rfl)) (by unfold Func.isWrapper; first | (rw [if_pos (by decide +kernel)]; kernel_rfl) | (rw [if_neg (by decide +kernel)]; exact ⟨rfl, rfl⟩))
  (fun os started H enc _ => compilePrograms_lifted os started H enc)

theorem compilePrograms_holds : Rows.CompileProgramsCardSaid :=
 Claim7.holds_tied_plain_at .later [] [.data, .data, .data, .listed, .data] true (true, "f92b43cb487520b74412040b5fc281fda2bfab0aa271e9c7f49857da23211901") true
  compilePrograms_row (fun _ h => by cases h) (by kernel_rfl) (fun _ h => by cases h) compilePrograms_row_tie rfl ⟨rfl, rfl⟩ (by kernel_rfl) rfl
  (fun f fn hf hfn => by
   obtain rfl : f = 3 := Option.some.inj ((show Tryz.prog.funcNamed "tallystone/tallystonelaw34.CompilePrograms" = some 3 by kernel_rfl).symm.trans hf) |>.symm
   obtain rfl : fn = Tryz.f3 := (Option.some.inj (Tryz.func3.symm.trans hfn)).symm
   exact ⟨by kernel_rfl, fun j t ht => by
    rw [Tryz.params3] at ht
    have hall : (([23, 24] : List TypeId).all fun u => !Tryz.prog.wantsStandIn u) = true := by kernel_rfl
    exact (show Tryz.prog.wantsStandIn t = false by simpa using List.all_eq_true.1 hall t (by simpa using Array.mem_of_getElem? ht))⟩)
  (by kernel_rfl)
end Go.Proofs.YtpggidmbnjfmaaaGreatDoor
