/- For every input, NoteSame returns true. No conditions. -/
import Derived.Test.YthfnaaeddlnckaaNoS
import Derived.Test.YthfnaaeddlnckaaNRow
set_option linter.unusedSimpArgs false
set_option linter.unusedVariables false
namespace Go.Proofs.Ythfnaaeddlnckaa
open Go.ChangeShapes Go.WideShapes Go.ChangeAt Go.RowKit E
set_option maxRecDepth 100000 in
theorem noteSame_lifted (os : Os) (started : os.Started) (H : Type) (enc : TypeId × Value → H) :
    ReturnsInHanded {} Try.checked os 6 .any (Rows.noteSameSpec.pre6 enc Try.prog Try.f6 Rows.noteSameRow.domain false) (Rows.noteSameSpec.post enc Try.prog Try.f6 false true false false) := by
  refine lifted_of started Rows.noteSameRow.domain (by kernel_rfl) Try.func6
    (ChangeSpec.witness6 (enc := enc) (C := Try.checked) false ⟨#[], #[.agg #[.string ⟨#[]⟩, .int .i64 0, .int .i64 0, .int .i64 0, .slice none 0 0, .int .i64 0, .int .i64 0, .int .i64 0, .int .i64 0, .int .i64 0, .int .i64 0, .int .i64 0, .int .i64 0, .int .i64 0, .int .i64 0, .int .i64 0, .int .i64 0, .int .i64 0, .int .i64 0, .int .i64 0, .slice none 0 0], .agg #[.int .i64 0, .slice none 0 0, .slice none 0 0, .slice none 0 0], .int .i64 0], []⟩ 30 (by kernel_rfl) (by kernel_rfl) (by kernel_rfl) (by kernel_rfl))
    rfl ?_ _ (by kernel_rfl) Try.underlying4 (by kernel_rfl) (by kernel_rfl) ?_
  · rw [Try.params6]
    intro ds hds
    match ds, hds with
    | [d0, d1, d2], _ => exact ⟨rfl, rfl, rfl⟩
  · rw [Try.params6]
    intro xs hx
    match xs, hx with
    | [x0, x1, x2], ⟨h0, h1, h2, _⟩ =>
      obtain ⟨g, rfl, wg⟩ := argG h0
      obtain ⟨r, rfl, wr⟩ := argR h1
      obtain ⟨n, rfl, wn⟩ := argI h2
      simp only [argVs, argV_G, argV_two, argV_i, argV_R]
      exact l_NoteSame w_awake g r n (wfG_of wg)

theorem noteSame_holds : Rows.NoteSameSaid :=
  OpenClaim.holds_of_wide 6 Try.f6 rfl rfl rfl rfl rfl rfl rfl ⟨rfl, rfl, rfl, rfl, rfl⟩ rfl rfl rfl rfl rfl (by kernel_rfl) Try.func6 (by kernel_rfl)
    (of_decide_eq_true (by kernel_rfl)) (by unfold Func.isWrapper; first | (rw [if_pos (by decide +kernel)]; kernel_rfl) | (rw [if_neg (by decide +kernel)]; exact ⟨rfl, rfl⟩))
    (fun os started H enc _ => noteSame_lifted os started H enc)
end Go.Proofs.Ythfnaaeddlnckaa
