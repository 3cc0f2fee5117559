/- For every input, ExecuteItems returns true. No conditions. -/
import Derived.Test.YtmlpmdccfmmpoaaGreatLit
import Derived.Test.YtmlpmdccfmmpoaaGreatSr
set_option linter.unusedSimpArgs false
set_option linter.unusedVariables false
namespace Go.Proofs.YtmlpmdccfmmpoaaGreat
open Go.ChangeShapes Go.WideShapes Go.ChangeAt Go.RowKit E
set_option maxRecDepth 100000 in
theorem executeItems_lifted (os : Os) (started : os.Started) (H : Type) (enc : TypeId × Value → H) :
  ReturnsInHanded {} Tryz.checked os 5 .any (Rows.executeItemsSpec.pre6 enc Tryz.prog Tryz.f5 Rows.executeItemsRow.domain false) (Rows.executeItemsSpec.post enc Tryz.prog Tryz.f5 false true false false) := by
 refine lifted_of started Rows.executeItemsRow.domain (by kernel_rfl) Tryz.func5
  (ChangeSpec.witness6 (enc := enc) (C := Tryz.checked) false ⟨#[], #[.slice none 0 0, .slice none 0 0, .agg #[.int .u8 0, .int .u8 0]], []⟩ 30 (by kernel_rfl) (by kernel_rfl) (by kernel_rfl) (by kernel_rfl))
  rfl ?_ _ (by kernel_rfl) Tryz.underlying4 types35 types35_ok (by kernel_rfl) (by kernel_rfl) ?_
 ·rw [Tryz.params5]
  intro ds hds
  match ds, hds with
  | [d0, d1, d2], _ => exact ⟨rfl, rfl, rfl⟩
 ·rw [Tryz.params5]
  intro xs hx
  match xs, hx with
  | [x0, x1, x2], ⟨h0, h1, h2, _⟩ =>
   obtain ⟨c, e0⟩ := arg_Codes h0
   obtain ⟨l, e1, w⟩ := arg_Sous h1
   obtain ⟨x, y, e2, wx, wy⟩ := arg_At h2
   simp only [argVs]
   rw [e0, e1, e2]
   exact l_items c l w x y wx wy

theorem executeItems_holds : Rows.ExecuteItemsSaid :=
 OpenClaim.holds_of_wide 5 Tryz.f5 rfl rfl rfl rfl rfl rfl rfl ⟨rfl, rfl, rfl, rfl, rfl⟩ rfl rfl rfl rfl rfl (by kernel_rfl) Tryz.func5 (by kernel_rfl)
  (of_decide_eq_true (by kernel_rfl)) (by unfold Func.isWrapper; first | (rw [if_pos (by decide +kernel)]; kernel_rfl) | (rw [if_neg (by decide +kernel)]; exact ⟨rfl, rfl⟩))
  (fun os started H enc _ => executeItems_lifted os started H enc)
end Go.Proofs.YtmlpmdccfmmpoaaGreat
