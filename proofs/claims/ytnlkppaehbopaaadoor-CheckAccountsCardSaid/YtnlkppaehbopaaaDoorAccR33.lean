/- For every input, CheckAccounts returns true. -/
import Derived.Test.YtnlkppaehbopaaaDoorShP
import Derived.Test.YtnlkppaehbopaaaDoorLls
import Derived.Test.YtnlkppaehbopaaaDoorLay33
import Derived.Test.YtnlkppaehbopaaaDoorCards
import Derived.Test.YtnlkppaehbopaaaDoorTie
import Derived.SevenTiedAt
set_option linter.unusedSimpArgs false
set_option linter.unusedVariables false
namespace Go.Proofs.YtnlkppaehbopaaaDoor
open Go.ChangeShapes Go.WideShapes Go.ChangeAt Go.RowKit E
set_option maxRecDepth 100000 in
theorem checkAccounts_lifted (os : Os) (started : os.Started) (H : Type) (enc : TypeId × Value → H) :
    ReturnsInHanded {} Tryd.checked os 6 .any (fun w args => (Rows.checkAccountsSpec.pre enc Tryd.prog Tryd.f6 [] false w args ∧ laidMetH Tryd.prog lay33 w) ∧ sizedMet enc Tryd.prog Tryd.f6 (OpenSpec.ofChange Rows.checkAccountsSpec) false w args)
      (Rows.checkAccountsSpec.post enc Tryd.prog Tryd.f6 false true false false) := by
  refine lifted_laid started lay33 lay_of [] (by kernel_rfl) Tryd.func6
    (ChangeSpec.witness_shaped (enc := enc) (C := Tryd.checked) (os := os) (X := fun w _ => laidMetH Tryd.prog lay33 w) false (World.doorLaid Tryd.prog 400 os) #[.slice none 0 0, .slice none 0 0, .agg #[.int .i64 0, .int .i64 0, .int .i64 0, .int .i64 0]] 8 rfl (World.shaped_of_RefB (by kernel_rfl) (by kernel_rfl)) (by kernel_rfl) (by kernel_rfl) (by kernel_rfl) (door_met os _))
    rfl ?_ _ (by kernel_rfl) Tryd.underlying4 [34, 32, 30, 29, 24, 22, 3, 9, 4, 44, 57] (by kernel_rfl) (by kernel_rfl) (by kernel_rfl) ?_
  · rw [Tryd.params6]
    intro ds hds
    match ds, hds with
    | [d0, d1, d2], _ => exact ⟨rfl, rfl, rfl⟩
  · rw [Tryd.params6]
    intro xs hx
    match xs, hx with
    | [x0, x1, x2], ⟨h0, h1, h2, _⟩ =>
      obtain ⟨a0, e0, w0⟩ := arg_Prg h0
      obtain ⟨a1, e1, w1⟩ := arg_AL h1
      obtain ⟨a2, e2, w2⟩ := arg_Account h2
      simp only [argVs]
      rw [e0, e1, e2]
      exact l_accounts a0 a1 a2

theorem checkAccounts_row : Rows.CheckAccountsSaid :=
  OpenClaim.holds_of_wide 6 Tryd.f6 rfl rfl rfl rfl rfl rfl rfl ⟨rfl, rfl, rfl, rfl, rfl⟩ rfl rfl rfl rfl rfl (by kernel_rfl) Tryd.func6 (by kernel_rfl)
    (of_decide_eq_true (by kernel_rfl)) (by unfold Func.isWrapper; first | (rw [if_pos (by decide +kernel)]; kernel_rfl) | (rw [if_neg (by decide +kernel)]; exact ⟨rfl, rfl⟩))
    (fun os started H enc _ => checkAccounts_lifted os started H enc)

theorem checkAccounts_holds : Rows.CheckAccountsCardSaid :=
  Claim7.holds_tied_plain_at .later [] [.listed, .data] true (true, "3a16687f48dd722920d135127f8cae2963892561c100197db4da09777decf1cc") true
    checkAccounts_row (fun _ h => by cases h) (by kernel_rfl) (fun _ h => by cases h) checkAccounts_row_tie rfl ⟨rfl, rfl⟩ (by kernel_rfl) rfl
    (fun f fn hf hfn => by
      obtain rfl : f = 6 := Option.some.inj ((show Tryd.prog.funcNamed "tallystone/tallystonelaw33.CheckAccounts" = some 6 by kernel_rfl).symm.trans hf) |>.symm
      obtain rfl : fn = Tryd.f6 := (Option.some.inj (Tryd.func6.symm.trans hfn)).symm
      exact ⟨by kernel_rfl, fun j t ht => by
        rw [Tryd.params6] at ht
        have hall : (([34, 44, 57] : List TypeId).all fun u => !Tryd.prog.wantsStandIn u) = true := by kernel_rfl
        exact (show Tryd.prog.wantsStandIn t = false by simpa using List.all_eq_true.1 hall t (by simpa using Array.mem_of_getElem? ht))⟩)
    (by kernel_rfl)
end Go.Proofs.YtnlkppaehbopaaaDoor
