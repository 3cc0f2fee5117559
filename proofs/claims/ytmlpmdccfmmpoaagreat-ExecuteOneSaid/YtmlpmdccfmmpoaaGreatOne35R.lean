/- For every input, ExecuteOne returns true. No conditions. -/
import Derived.Test.YtmlpmdccfmmpoaaGreatRxI
import Derived.Test.YtmlpmdccfmmpoaaGreatLon
import Derived.Test.YtmlpmdccfmmpoaaGreatSr
set_option linter.unusedSimpArgs false
set_option linter.unusedVariables false
namespace Go.Proofs.YtmlpmdccfmmpoaaGreat
open Go.ChangeShapes Go.WideShapes Go.ChangeAt Go.RowKit E
set_option maxRecDepth 100000 in
theorem executeOne_lifted (os:Os) (started:os.Started) (H:Type) (enc:TypeId×Value→H) :
  ReturnsInHanded {} Tryz.checked os 6 .any (Rows.executeOneSpec.pre6 enc Tryz.prog Tryz.f6 Rows.executeOneRow.domain false) (Rows.executeOneSpec.post enc Tryz.prog Tryz.f6 false true false false):=by
 refine lifted_of started Rows.executeOneRow.domain (by kernel_rfl) Tryz.func6
  (ChangeSpec.witness6 (enc:=enc) (C:=Tryz.checked) false ⟨#[],#[.agg #[.string ⟨#[]⟩,.bool false,.slice none 0 0],.slice none 0 0,.agg #[.int .i64 0,.int .i64 0,.int .i64 0]],[]⟩ 30 (by kernel_rfl) (by kernel_rfl) (by kernel_rfl) (by kernel_rfl))
  rfl ?_ _ (by kernel_rfl) Tryz.underlying4 types35 types35_ok (by kernel_rfl) (by kernel_rfl) ?_
 ·rw [Tryz.params6]
  intro ds hds
  match ds,hds with
  | [d0,d1,d2],_=>exact⟨rfl,rfl,rfl⟩
 ·rw [Tryz.params6]
  intro xs hx
  match xs,hx with
  | [x0,x1,x2],⟨h0,h1,h2,_⟩=>
   obtain⟨c,e0⟩:=arg_Code h0
   obtain⟨l,e1,w⟩:=arg_Sous h1
   obtain⟨r,e,o,e2,_⟩:=arg_Inst h2
   simp only [argVs]
   rw [e0,e1,e2]
   exact l_one c l w r e o (fun hl s _ hs hm hp ho=>w_qinst c s hs r o hm hl hp ho)

theorem executeOne_holds:Rows.ExecuteOneSaid:=
 OpenClaim.holds_of_wide 6 Tryz.f6 rfl rfl rfl rfl rfl rfl rfl ⟨rfl,rfl,rfl,rfl,rfl⟩ rfl rfl rfl rfl rfl (by kernel_rfl) Tryz.func6 (by kernel_rfl)
  (of_decide_eq_true (by kernel_rfl)) (by unfold Func.isWrapper; first | (rw [if_pos (by decide +kernel)]; kernel_rfl) | (rw [if_neg (by decide +kernel)]; exact⟨rfl,rfl⟩))
  (fun os started H enc _=>executeOne_lifted os started H enc)
end Go.Proofs.YtmlpmdccfmmpoaaGreat
