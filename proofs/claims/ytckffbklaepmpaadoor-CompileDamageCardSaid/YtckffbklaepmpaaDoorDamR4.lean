/- For every input, CompileDamage returns true. -/
import Derived.Test.YtckffbklaepmpaaDoorShP
import Derived.Test.YtckffbklaepmpaaDoorLdm
import Derived.Test.YtckffbklaepmpaaDoorLay4
import Derived.Test.YtckffbklaepmpaaDoorCards
import Derived.Test.YtckffbklaepmpaaDoorTie
import Derived.SevenTiedAt
set_option linter.unusedSimpArgs false
set_option linter.unusedVariables false
namespace Go.Proofs.YtckffbklaepmpaaDoor
open Go.ChangeShapes Go.WideShapes Go.ChangeAt Go.RowKit E
theorem sh_u16 {n : Nat} {ts : List T} (h : Sh Tryd.prog n 47 ts) : ∃ x : Int, ts = [.int .u16 x] ∧ 0 ≤ x ∧ x ≤ 65535 := by
  cases n with
  | zero => exact h.elim
  | succ n =>
    simp only [Sh, Tryd.underlying47] at h
    obtain ⟨x, rfl, hw⟩ := h
    refine ⟨x, rfl, ?_⟩
    simp [Lit.wf, IntKind.min, IntKind.max, IntKind.signed, IntKind.bits] at hw
    omega
theorem arg_u16 {ts : List T} (h : ∃ n, Sh Tryd.prog n 47 ts) : ∃ x : Int, argV Tryd.prog 47 ts = .t (.int .u16 x) ∧ 0 ≤ x ∧ x ≤ 65535 := by
  obtain ⟨n, h⟩ := h
  obtain ⟨x, e, w⟩ := sh_u16 h
  exact ⟨x, argV_at (by kernel_rfl) e, w⟩
set_option maxRecDepth 100000 in
theorem compileDamage_lifted (os : Os) (started : os.Started) (H : Type) (enc : TypeId × Value → H) :
    ReturnsInHanded {} Tryd.checked os 4 .any (fun w args => (Rows.compileDamageSpec.pre enc Tryd.prog Tryd.f4 [] false w args ∧ laidMetH Tryd.prog lay4 w) ∧ sizedMet enc Tryd.prog Tryd.f4 (OpenSpec.ofChange Rows.compileDamageSpec) false w args)
      (Rows.compileDamageSpec.post enc Tryd.prog Tryd.f4 false true false false) := by
  refine lifted_laid started lay4 lay_of [] (by kernel_rfl) Tryd.func4
    (ChangeSpec.witness_shaped (enc := enc) (C := Tryd.checked) (os := os) (X := fun w _ => laidMetH Tryd.prog lay4 w) false (World.doorLaid Tryd.prog 400 os) #[.slice none 0 0, .slice none 0 0, .int .u16 0] 8 rfl (World.shaped_of_RefB (by kernel_rfl) (by kernel_rfl)) (by kernel_rfl) (by kernel_rfl) (by kernel_rfl) (door_met os _))
    rfl ?_ _ (by kernel_rfl) Tryd.underlying4 [23, 36, 34, 42, 40, 38, 3, 9, 4, 24, 112, 47] (by kernel_rfl) (by kernel_rfl) (by kernel_rfl) ?_
  · rw [Tryd.params4]
    intro ds hds
    match ds, hds with
    | [d0, d1, d2], _ => exact ⟨rfl, rfl, rfl⟩
  · rw [Tryd.params4]
    intro xs hx
    match xs, hx with
    | [x0, x1, x2], ⟨h0, h1, h2, _⟩ =>
      obtain ⟨a0, e0, w0⟩ := arg_Prg h0
      obtain ⟨a1, e1, w1⟩ := arg_AL h1
      obtain ⟨a2, e2, w2, w3⟩ := arg_u16 h2
      simp only [argVs]
      rw [e0, e1, e2]
      exact l_damage a0 a1 a2 w2 w3

theorem compileDamage_row : Rows.CompileDamageSaid :=
  OpenClaim.holds_of_wide 4 Tryd.f4 rfl rfl rfl rfl rfl rfl rfl ⟨rfl, rfl, rfl, rfl, rfl⟩ rfl rfl rfl rfl rfl (by kernel_rfl) Tryd.func4 (by kernel_rfl)
    (of_decide_eq_true (by kernel_rfl)) (by unfold Func.isWrapper; first | (rw [if_pos (by decide +kernel)]; kernel_rfl) | (rw [if_neg (by decide +kernel)]; exact ⟨rfl, rfl⟩))
    (fun os started H enc _ => compileDamage_lifted os started H enc)

theorem compileDamage_holds : Rows.CompileDamageCardSaid :=
  Claim7.holds_tied_plain_at .later [] [.data, .data, .data, .listed, .data] true (true, "6b98edcf7601c443a702d36d552e9e84c4381220308cc1920f1e275c68329407") true
    compileDamage_row (fun _ h => by cases h) (by kernel_rfl) (fun _ h => by cases h) compileDamage_row_tie rfl ⟨rfl, rfl⟩ (by kernel_rfl) rfl
    (fun f fn hf hfn => by
      obtain rfl : f = 4 := Option.some.inj ((show Tryd.prog.funcNamed "tallystone/tallystonelaw34.CompileDamage" = some 4 by kernel_rfl).symm.trans hf) |>.symm
      obtain rfl : fn = Tryd.f4 := (Option.some.inj (Tryd.func4.symm.trans hfn)).symm
      exact ⟨by kernel_rfl, fun j t ht => by
        rw [Tryd.params4] at ht
        have hall : (([23, 24, 47] : List TypeId).all fun u => !Tryd.prog.wantsStandIn u) = true := by kernel_rfl
        exact (show Tryd.prog.wantsStandIn t = false by simpa using List.all_eq_true.1 hall t (by simpa using Array.mem_of_getElem? ht))⟩)
    (by kernel_rfl)
end Go.Proofs.YtckffbklaepmpaaDoor
