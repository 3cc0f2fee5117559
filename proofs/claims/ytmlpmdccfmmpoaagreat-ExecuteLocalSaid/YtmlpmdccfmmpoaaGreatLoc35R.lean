/- For every input, ExecuteLocal returns true. No conditions. -/
import Derived.Test.YtmlpmdccfmmpoaaGreatLlo
import Derived.Test.YtmlpmdccfmmpoaaGreatSr
set_option linter.unusedSimpArgs false
set_option linter.unusedVariables false
namespace Go.Proofs.YtmlpmdccfmmpoaaGreat
open Go.ChangeShapes Go.WideShapes Go.ChangeAt Go.RowKit E
set_option maxRecDepth 100000 in
theorem Fb (os:Os) (started:os.Started) (H:Type) (enc:TypeId×Value→H) :
  ReturnsInHanded {} Tryz.checked os 7 .any (Rows.executeLocalSpec.pre6 enc Tryz.prog Tryz.f7 Rows.executeLocalRow.domain false) (Rows.executeLocalSpec.post enc Tryz.prog Tryz.f7 false true false false):=by
 refine R6 started Rows.executeLocalRow.domain (by kernel_rfl) Tryz.func7
  (ChangeSpec.witness6 (enc:=enc) (C:=Tryz.checked) false ⟨#[],#[.slice none 0 0,.slice none 0 0],[]⟩ 30 (by kernel_rfl) (by kernel_rfl) (by kernel_rfl) (by kernel_rfl))
  rfl ?_ _ (by kernel_rfl) Tryz.underlying4 Pd Oi (by kernel_rfl) (by kernel_rfl) ?_
 ·rw [Tryz.params7]
  intro ds hds
  match ds,hds with
  | [d0,d1],_=>exact⟨rfl,rfl,rfl⟩
 ·rw [Tryz.params7]
  intro xs hx
  match xs,hx with
  | [x0,x1],⟨h0,h1,_⟩=>
   obtain⟨c,e0⟩:=R7 h0
   obtain⟨l,e1,w⟩:=Ts h1
   simp only [Et]
   rw [e0,e1]
   exact Va c l w

theorem executeLocal_holds:Rows.ExecuteLocalSaid:=
 OpenClaim.holds_of_wide 7 Tryz.f7 rfl rfl rfl rfl rfl rfl rfl ⟨rfl,rfl,rfl,rfl,rfl⟩ rfl rfl rfl rfl rfl (by kernel_rfl) Tryz.func7 (by kernel_rfl)
  (of_decide_eq_true (by kernel_rfl)) (by unfold Func.isWrapper;first|(rw [if_pos (by decide +kernel)];kernel_rfl)|(rw [if_neg (by decide +kernel)];exact⟨rfl,rfl⟩))
  (fun os started H enc _=>Fb os started H enc)
end Go.Proofs.YtmlpmdccfmmpoaaGreat
