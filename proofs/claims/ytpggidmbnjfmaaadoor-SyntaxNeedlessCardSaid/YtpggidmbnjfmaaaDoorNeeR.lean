/- For every input, SyntaxNeedless returns true. -/
import Derived.Test.YtpggidmbnjfmaaaDoorShP
import Derived.Test.YtpggidmbnjfmaaaDoorLnl
import Derived.Test.YtpggidmbnjfmaaaDoorRowL
import Derived.Test.YtpggidmbnjfmaaaDoorLay4
import Derived.Test.YtpggidmbnjfmaaaDoorCards
import Derived.Test.YtpggidmbnjfmaaaDoorTie
import Derived.SevenTiedAt
set_option linter.unusedSimpArgs false
set_option linter.unusedVariables false
namespace Go.Proofs.YtpggidmbnjfmaaaDoor
open Go.ChangeShapes Go.WideShapes Go.ChangeAt Go.RowKit E
set_option maxRecDepth 100000 in
theorem syntaxNeedless_lifted (os : Os) (started : os.Started) (H : Type) (enc : TypeId × Value → H) :
  ReturnsInHanded {} Tryd.checked os 5 .any (fun w args => (Rows.syntaxNeedlessSpec.pre enc Tryd.prog Tryd.f5 [] false w args ∧ laidMetH Tryd.prog lay4 w) ∧ sizedMet enc Tryd.prog Tryd.f5 (OpenSpec.ofChange Rows.syntaxNeedlessSpec) false w args)
   (Rows.syntaxNeedlessSpec.post enc Tryd.prog Tryd.f5 false true false false) := by
 refine lifted_laid started lay4 lay_of [] (by kernel_rfl) Tryd.func5
  (ChangeSpec.witness_shaped (enc := enc) (C := Tryd.checked) (os := os) (X := fun w _ => laidMetH Tryd.prog lay4 w) false (World.doorLaid Tryd.prog 400 os) #[.slice none 0 0, .int .u8 0] 8 rfl (World.shaped_of_RefB (by kernel_rfl) (by kernel_rfl)) (by kernel_rfl) (by kernel_rfl) (by kernel_rfl) (door_met os _))
  rfl ?_ _ (by kernel_rfl) Tryd.underlying4 [23, 41, 39, 38, 36, 34, 3, 9, 4, 5] (by kernel_rfl) (by kernel_rfl) (by kernel_rfl) ?_
 ·rw [Tryd.params5]
  intro ds hds
  match ds, hds with
  | [d0, d1], _ => exact ⟨rfl, rfl, rfl⟩
 ·rw [Tryd.params5]
  intro xs hx
  match xs, hx with
  | [x0, x1], ⟨h0, h1, _⟩ =>
   obtain ⟨a0, e0, w0⟩ := arg_Prg h0
   obtain ⟨a1, e1, w1, w2⟩ := arg_u8 h1
   simp only [argVs]
   rw [e0, e1]
   exact l_needless a0 a1 w1 w2

theorem syntaxNeedless_row : Rows.SyntaxNeedlessSaid :=
 OpenClaim.holds_of_wide 5 Tryd.f5 rfl rfl rfl rfl rfl rfl rfl ⟨rfl, rfl, rfl, rfl, rfl⟩ rfl rfl rfl rfl rfl (by kernel_rfl) Tryd.func5 (by kernel_rfl)
  (of_decide_eq_true (by kernel_rfl)) (by unfold Func.isWrapper; first | (rw [if_pos (by decide +kernel)]; kernel_rfl) | (rw [if_neg (by decide +kernel)]; exact ⟨rfl, rfl⟩))
  (fun os started H enc _ => syntaxNeedless_lifted os started H enc)

theorem syntaxNeedless_holds : Rows.SyntaxNeedlessCardSaid :=
 Claim7.holds_tied_plain_at .later [] [.data, .data, .data, .listed, .data] true (true, "57575825f2cc2d4ed4cc9e302adbd7fd0bc29fc38682d164fbf2ede2810acaa7") false
  syntaxNeedless_row (fun _ h => by cases h) (by kernel_rfl) (fun _ h => by cases h) syntaxNeedless_row_tie rfl ⟨rfl, rfl⟩ (by kernel_rfl) rfl
  (fun f fn hf hfn => by
   obtain rfl : f = 5 := Option.some.inj ((show Tryd.prog.funcNamed "tallystone/tallystonelaw32.SyntaxNeedless" = some 5 by kernel_rfl).symm.trans hf) |>.symm
   obtain rfl : fn = Tryd.f5 := (Option.some.inj (Tryd.func5.symm.trans hfn)).symm
   exact ⟨by kernel_rfl, fun j t ht => by
    rw [Tryd.params5] at ht
    have hall : (([23, 5] : List TypeId).all fun u => !Tryd.prog.wantsStandIn u) = true := by kernel_rfl
    exact (show Tryd.prog.wantsStandIn t = false by simpa using List.all_eq_true.1 hall t (by simpa using Array.mem_of_getElem? ht))⟩)
  (by kernel_rfl)
end Go.Proofs.YtpggidmbnjfmaaaDoor
