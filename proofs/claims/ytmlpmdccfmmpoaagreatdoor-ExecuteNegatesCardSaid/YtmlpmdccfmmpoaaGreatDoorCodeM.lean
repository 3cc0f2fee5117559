/- The order of evaluation; types; the marks of the code. -/
import Derived.Test.YtmlpmdccfmmpoaaGreatDoorEg
import Derived.Test.YtmlpmdccfmmpoaaGreatDoorEt
import Derived.Test.YtmlpmdccfmmpoaaGreatDoorProg
set_option linter.unusedSimpArgs false
set_option linter.unusedVariables false
set_option linter.defProp false
set_option maxRecDepth 10000
namespace Go.Proofs.YtmlpmdccfmmpoaaGreatDoor
open Go Go.Proofs E
theorem mix:Tryz.prog.follows .mixedOrders=true:=by kernel_rfl
noncomputable def TA (f:Nat):=TK false false [] Tryz.prog f
noncomputable def XA (f:Nat):Nat→EC:=XC (TA f)
theorem eA (f):eqs (XA f) (TA f) 0 []:=by unfold XA;exact Fe _
noncomputable def TB (f:Nat):=TK true false [] Tryz.prog f
noncomputable def XB (f:Nat):Nat→EC:=XC (TB f)
theorem eB (f):eqs (XB f) (TB f) 0 []:=by unfold XB;exact Fe _
abbrev Inf (t:Nat) (i:TypeInfo):=Tryz.prog.info? t=some i
abbrev Eqg (t:Nat):=Tryz.prog.eqGuardType Tryz.prog.depth t=false
abbrev Gls (b:Nat):=opd (.global b)=some (.c (Tu b))
theorem A4q:Inf 3 Tryz.t3∧Inf 4 Tryz.t4∧Inf 5 Tryz.t5∧Inf 9 Tryz.t9∧Inf 20 Tryz.t20∧Inf 21 Tryz.t21∧Inf 22 Tryz.t22∧Inf 23 Tryz.t23∧Inf 24 Tryz.t24∧Inf 25 Tryz.t25∧Inf 30 Tryz.t30∧Inf 31 Tryz.t31∧Inf 32 Tryz.t32∧Inf 33 Tryz.t33∧Inf 34 Tryz.t34∧Inf 35 Tryz.t35∧Inf 36 Tryz.t36∧Inf 38 Tryz.t38∧Inf 39 Tryz.t39∧Inf 42 Tryz.t42∧Inf 45 Tryz.t45∧Inf 46 Tryz.t46∧Inf 47 Tryz.t47∧Inf 51 Tryz.t51∧Inf 54 Tryz.t54∧Inf 55 Tryz.t55∧Inf 61 Tryz.t61∧Inf 62 Tryz.t62∧Inf 63 Tryz.t63∧Inf 64 Tryz.t64∧Inf 65 Tryz.t65∧Inf 66 Tryz.t66∧Inf 67 Tryz.t67∧Inf 68 Tryz.t68∧Inf 69 Tryz.t69∧Inf 70 Tryz.t70∧Inf 71 Tryz.t71∧Inf 72 Tryz.t72∧Inf 73 Tryz.t73∧Inf 74 Tryz.t74:=by (repeat' apply And.intro)<;>((first|unfold Inf|unfold Eqg|unfold Gls);kernel_rfl)
theorem A4r:Inf 75 Tryz.t75∧Inf 76 Tryz.t76∧Inf 77 Tryz.t77∧Inf 78 Tryz.t78∧Inf 79 Tryz.t79∧Inf 83 Tryz.t83∧Inf 84 Tryz.t84∧Inf 85 Tryz.t85∧Inf 92 Tryz.t92∧Inf 93 Tryz.t93∧Inf 95 Tryz.t95∧Inf 96 Tryz.t96∧Inf 97 Tryz.t97∧Inf 98 Tryz.t98∧Inf 100 Tryz.t100∧Inf 101 Tryz.t101∧Inf 102 Tryz.t102∧Inf 103 Tryz.t103∧Inf 104 Tryz.t104∧Inf 105 Tryz.t105∧Inf 106 Tryz.t106∧Inf 107 Tryz.t107∧Inf 109 Tryz.t109∧Inf 110 Tryz.t110∧Inf 127 Tryz.t127∧Inf 131 Tryz.t131∧Inf 132 Tryz.t132∧Inf 133 Tryz.t133∧Inf 137 Tryz.t137∧Inf 138 Tryz.t138∧Inf 139 Tryz.t139∧Inf 145 Tryz.t145∧Inf 148 Tryz.t148∧Inf 149 Tryz.t149∧Inf 150 Tryz.t150∧Inf 161 Tryz.t161∧Inf 164 Tryz.t164∧Inf 165 Tryz.t165∧Inf 172 Tryz.t172∧Inf 173 Tryz.t173:=by (repeat' apply And.intro)<;>((first|unfold Inf|unfold Eqg|unfold Gls);kernel_rfl)
theorem A4s:Inf 174 Tryz.t174∧Inf 175 Tryz.t175∧Inf 176 Tryz.t176∧Inf 179 Tryz.t179∧Inf 188 Tryz.t188∧Inf 189 Tryz.t189∧Inf 197 Tryz.t197∧Inf 198 Tryz.t198∧Inf 214 Tryz.t214∧Inf 215 Tryz.t215∧Inf 219 Tryz.t219∧Inf 238 Tryz.t238∧Inf 239 Tryz.t239∧Inf 242 Tryz.t242∧Inf 243 Tryz.t243∧Inf 273 Tryz.t273∧Inf 312 Tryz.t312∧Eqg 4∧Eqg 20∧Gls 0:=by (repeat' apply And.intro)<;>((first|unfold Inf|unfold Eqg|unfold Gls);kernel_rfl)
end Go.Proofs.YtmlpmdccfmmpoaaGreatDoor
