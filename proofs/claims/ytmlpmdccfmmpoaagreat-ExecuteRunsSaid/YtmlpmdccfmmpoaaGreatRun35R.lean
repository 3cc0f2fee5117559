/- For every input, ExecuteRuns returns true. No conditions. -/
import Derived.Test.YtmlpmdccfmmpoaaGreatRxJ
import Derived.Test.YtmlpmdccfmmpoaaGreatSr
set_option linter.unusedSimpArgs false
set_option linter.unusedVariables false
namespace Go.Proofs.YtmlpmdccfmmpoaaGreat
open Go.ChangeShapes Go.WideShapes Go.ChangeAt Go.RowKit E
set_option maxRecDepth 100000 in
theorem executeRuns_lifted (os:Os) (started:os.Started) (H:Type) (enc:TypeId×Value→H) :
  ReturnsInHanded {} Tryz.checked os 3 .any (Rows.executeRunsSpec.pre6 enc Tryz.prog Tryz.f3 Rows.executeRunsRow.domain false) (Rows.executeRunsSpec.post enc Tryz.prog Tryz.f3 false true false false):=by
 refine lifted_of started Rows.executeRunsRow.domain (by kernel_rfl) Tryz.func3
  (ChangeSpec.witness6 (enc:=enc) (C:=Tryz.checked) false ⟨#[],#[.slice none 0 0,.slice none 0 0],[]⟩ 30 (by kernel_rfl) (by kernel_rfl) (by kernel_rfl) (by kernel_rfl))
  rfl ?_ _ (by kernel_rfl) Tryz.underlying4 types35 types35_ok (by kernel_rfl) (by kernel_rfl) ?_
 ·rw [Tryz.params3]
  intro ds hds
  match ds,hds with
  | [d0,d1],_=>exact⟨rfl,rfl,rfl⟩
 ·rw [Tryz.params3]
  intro xs hx
  match xs,hx with
  | [x0,x1],⟨h0,h1,_⟩=>
   obtain⟨c,e0⟩:=arg_Codes h0
   obtain⟨l,e1,w⟩:=arg_Sous h1
   simp only [argVs]
   rw [e0,e1]
   exact l_runs c l w

theorem executeRuns_holds:Rows.ExecuteRunsSaid:=
 OpenClaim.holds_of_wide 3 Tryz.f3 rfl rfl rfl rfl rfl rfl rfl ⟨rfl,rfl,rfl,rfl,rfl⟩ rfl rfl rfl rfl rfl (by kernel_rfl) Tryz.func3 (by kernel_rfl)
  (of_decide_eq_true (by kernel_rfl)) (by unfold Func.isWrapper; first | (rw [if_pos (by decide +kernel)]; kernel_rfl) | (rw [if_neg (by decide +kernel)]; exact⟨rfl,rfl⟩))
  (fun os started H enc _=>executeRuns_lifted os started H enc)
end Go.Proofs.YtmlpmdccfmmpoaaGreat
