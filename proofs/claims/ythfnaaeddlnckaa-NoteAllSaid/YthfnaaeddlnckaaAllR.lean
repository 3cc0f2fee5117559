/- For every input, NoteAll returns true. No conditions. -/
import Derived.Test.YthfnaaeddlnckaaNoE
import Derived.Test.YthfnaaeddlnckaaNRow
set_option linter.unusedSimpArgs false
set_option linter.unusedVariables false
namespace Go.Proofs.Ythfnaaeddlnckaa
open Go.ChangeShapes Go.WideShapes Go.ChangeAt Go.RowKit E
set_option maxRecDepth 100000 in
theorem noteAll_lifted (os : Os) (started : os.Started) (H : Type) (enc : TypeId × Value → H) :
    ReturnsInHanded {} Try.checked os 7 .any (Rows.noteAllSpec.pre6 enc Try.prog Try.f7 Rows.noteAllRow.domain false) (Rows.noteAllSpec.post enc Try.prog Try.f7 false true false false) := by
  refine lifted_of started Rows.noteAllRow.domain (by kernel_rfl) Try.func7
    (ChangeSpec.witness6 (enc := enc) (C := Try.checked) false ⟨#[], #[.agg #[.string ⟨#[]⟩, .int .i64 0, .int .i64 0, .int .i64 0, .slice none 0 0, .int .i64 0, .int .i64 0, .int .i64 0, .int .i64 0, .int .i64 0, .int .i64 0, .int .i64 0, .int .i64 0, .int .i64 0, .int .i64 0, .int .i64 0, .int .i64 0, .int .i64 0, .int .i64 0, .int .i64 0, .slice none 0 0], .agg #[.int .i64 0, .slice none 0 0, .slice none 0 0, .slice none 0 0, .int .i64 0, .slice none 0 0, .slice none 0 0, .slice none 0 0]], []⟩ 30 (by kernel_rfl) (by kernel_rfl) (by kernel_rfl) (by kernel_rfl))
    rfl ?_ _ (by kernel_rfl) Try.underlying4 (by kernel_rfl) (by kernel_rfl) ?_
  · rw [Try.params7]
    intro ds hds
    match ds, hds with
    | [d0, d1], _ => exact ⟨rfl, rfl, rfl⟩
  · rw [Try.params7]
    intro xs hx
    match xs, hx with
    | [x0, x1], ⟨h0, h1, _⟩ =>
      obtain ⟨g, rfl, wg⟩ := argG h0
      obtain ⟨b, a, rfl, wb, wa⟩ := sh_two h1
      simp only [argVs, argV_G, argV_two, argV_i, argV_R]
      exact l_NoteAll w_awake g b a (wfG_of wg) (okI_of wb) (okI_of wa)

theorem noteAll_holds : Rows.NoteAllSaid :=
  OpenClaim.holds_of_wide 7 Try.f7 rfl rfl rfl rfl rfl rfl rfl ⟨rfl, rfl, rfl, rfl, rfl⟩ rfl rfl rfl rfl rfl (by kernel_rfl) Try.func7 (by kernel_rfl)
    (of_decide_eq_true (by kernel_rfl)) (by unfold Func.isWrapper; first | (rw [if_pos (by decide +kernel)]; kernel_rfl) | (rw [if_neg (by decide +kernel)]; exact ⟨rfl, rfl⟩))
    (fun os started H enc _ => noteAll_lifted os started H enc)
end Go.Proofs.Ythfnaaeddlnckaa
