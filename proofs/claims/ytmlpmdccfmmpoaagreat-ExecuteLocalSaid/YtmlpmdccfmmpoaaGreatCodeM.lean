/- The order of evaluation; types; the marks of the code. -/
import Derived.Test.YtmlpmdccfmmpoaaGreatEe
import Derived.Test.YtmlpmdccfmmpoaaGreatEt
import Derived.Test.YtmlpmdccfmmpoaaGreatProg
set_option linter.unusedSimpArgs false
set_option linter.unusedVariables false
set_option linter.defProp false
set_option maxRecDepth 10000
namespace Go.Proofs.YtmlpmdccfmmpoaaGreat
open Go Go.Proofs E
theorem mix:Tryz.prog.follows .mixedOrders=true:=by kernel_rfl
noncomputable def TA (f:Nat):=TK false false [] Tryz.prog f
noncomputable def XA (f:Nat):Nat→EC:=XC (TA f)
theorem eA (f):eqs (XA f) (TA f) 0 []:=by unfold XA;exact Fo _
noncomputable def TB (f:Nat):=TK true false [] Tryz.prog f
noncomputable def XB (f:Nat):Nat→EC:=XC (TB f)
theorem eB (f):eqs (XB f) (TB f) 0 []:=by unfold XB;exact Fo _
abbrev Inf (t:Nat) (i:TypeInfo):=Tryz.prog.info? t=some i
abbrev Eqg (t:Nat):=Tryz.prog.eqGuardType Tryz.prog.depth t=false
abbrev Gls (b:Nat):=opd (.global b)=some (.c (Wi b))
theorem Yb:Inf 3 Tryz.t3∧Inf 4 Tryz.t4∧Inf 9 Tryz.t9∧Inf 22 Tryz.t22∧Inf 23 Tryz.t23∧Inf 26 Tryz.t26∧Inf 27 Tryz.t27∧Inf 30 Tryz.t30∧Inf 31 Tryz.t31∧Inf 34 Tryz.t34∧Inf 41 Tryz.t41∧Inf 42 Tryz.t42∧Inf 43 Tryz.t43∧Inf 44 Tryz.t44∧Inf 45 Tryz.t45∧Inf 46 Tryz.t46∧Inf 47 Tryz.t47∧Inf 48 Tryz.t48∧Inf 51 Tryz.t51∧Inf 52 Tryz.t52∧Inf 53 Tryz.t53∧Inf 54 Tryz.t54∧Inf 55 Tryz.t55∧Inf 56 Tryz.t56∧Inf 57 Tryz.t57∧Inf 58 Tryz.t58∧Inf 59 Tryz.t59∧Inf 60 Tryz.t60∧Inf 61 Tryz.t61∧Inf 62 Tryz.t62∧Inf 68 Tryz.t68∧Inf 69 Tryz.t69∧Inf 70 Tryz.t70∧Inf 76 Tryz.t76∧Inf 77 Tryz.t77∧Inf 78 Tryz.t78∧Inf 79 Tryz.t79∧Inf 80 Tryz.t80∧Inf 82 Tryz.t82∧Inf 83 Tryz.t83:=by (repeat' apply And.intro)<;>((first|unfold Inf|unfold Eqg|unfold Gls);kernel_rfl)
theorem Yc:Inf 84 Tryz.t84∧Inf 85 Tryz.t85∧Inf 86 Tryz.t86∧Inf 88 Tryz.t88∧Inf 89 Tryz.t89∧Inf 96 Tryz.t96∧Inf 102 Tryz.t102∧Inf 115 Tryz.t115∧Inf 116 Tryz.t116∧Inf 117 Tryz.t117∧Inf 136 Tryz.t136∧Inf 137 Tryz.t137∧Inf 141 Tryz.t141∧Inf 142 Tryz.t142∧Inf 143 Tryz.t143∧Eqg 4:=by (repeat' apply And.intro)<;>((first|unfold Inf|unfold Eqg|unfold Gls);kernel_rfl)
end Go.Proofs.YtmlpmdccfmmpoaaGreat
