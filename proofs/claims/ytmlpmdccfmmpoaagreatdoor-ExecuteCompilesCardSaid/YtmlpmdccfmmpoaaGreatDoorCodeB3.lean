/- The code of functions, as the engine reads it, out of the translation. -/
import Derived.Test.YtmlpmdccfmmpoaaGreatDoorCodeM
set_option linter.unusedSimpArgs false
set_option linter.unusedVariables false
set_option linter.defProp false
set_option maxRecDepth 10000
set_option maxRecDepth 20000
set_option maxHeartbeats 4000000
namespace Go.Proofs.YtmlpmdccfmmpoaaGreatDoor
open Go Go.Proofs E E.Z
attribute [local simp] Value.cells List.range List.range.loop List.lookup E.TK E.toks E.tkR E.tokR E.eqs E.eoD E.eopOf E.kindB E.kindOf E.shapeOf E.placesOf E.fieldsKnown E.constV E.constV1 E.constVs E.cellsV E.eqCells E.eqFs E.opds E.opd_t E.opd_k E.opd_f E.zeroOf E.mapOf E.keyOf E.aggD E.isAggV E.bldT E.fieldOf E.isShift E.isCallE E.cellB A1c A1d A1e Tryz.t3 Tryz.t4 Tryz.t5 Tryz.t9 Tryz.t20 Tryz.t21 Tryz.t22 Tryz.t23 Tryz.t24 Tryz.t25 Tryz.t30 Tryz.t31 Tryz.t32 Tryz.t33 Tryz.t34 Tryz.t35 Tryz.t36 Tryz.t38 Tryz.t39 Tryz.t42 Tryz.t45 Tryz.t46 Tryz.t47 Tryz.t51 Tryz.t54 Tryz.t55 Tryz.t61 Tryz.t62 Tryz.t63 Tryz.t64 Tryz.t65 Tryz.t66 Tryz.t67 Tryz.t68 Tryz.t69 Tryz.t70 Tryz.t71 Tryz.t72 Tryz.t73 Tryz.t74 Tryz.t75 Tryz.t76 Tryz.t77 Tryz.t78 Tryz.t79 Tryz.t83 Tryz.t84 Tryz.t85 Tryz.t92 Tryz.t93 Tryz.t95 Tryz.t96 Tryz.t97 Tryz.t98 Tryz.t100 Tryz.t101 Tryz.t102 Tryz.t103 Tryz.t104 Tryz.t105 Tryz.t106 Tryz.t107 Tryz.t109 Tryz.t110 Tryz.t124 Tryz.t125 Tryz.t127 Tryz.t131 Tryz.t132 Tryz.t133 Tryz.t137 Tryz.t138 Tryz.t139 Tryz.t145 Tryz.t148 Tryz.t149 Tryz.t150 Tryz.t161 Tryz.t164 Tryz.t165 Tryz.t172 Tryz.t173 Tryz.t174 Tryz.t175 Tryz.t176 Tryz.t179 Tryz.t188 Tryz.t189 Tryz.t197 Tryz.t198 Tryz.t214 Tryz.t215 Tryz.t219 Tryz.t238 Tryz.t239 Tryz.t242 Tryz.t243 Tryz.t273 Tryz.t312
def xd27x0_0:EC:=.rg [o 3 .box [t 0],o 6 .mv [i 0],o 7 (.alloc [.t (.int .i64 0)]) []] false
@[simp]def ed27x0_0:=rgF xd27x0_0 rfl
def xd27x1_0:EC:=.rg [o 11 (.load 6 true) [t 3],o 12 (.build [.t (.int .i64 0),.t (.int .i64 0),.t (.str []),.t (.int .i64 0),.t (.int .i64 0),.t (.int .i64 0),.t (.int .i64 0),.t (.str []),.snil] [(0,1),(3,6)]) [i 2,t 11],o 13 (.bsl 9) [t 12],o 14 (.build [.t (.str []),.t (.bool false),.snil,.t (.int .i64 0)] [(0,1),(2,1),(3,1)]) [c (.t (.str [114])),t 13,i 1],o 15 (.bsl 4) [t 14],o 16 (.call 45) [t 15],o 17 (.un .not) [t 16]] false
@[simp]def ed27x1_0:=rgF xd27x1_0 rfl
def xd27x1_1:EC:=.rg [o 6 .mv [i 0],u (.store 1) [t 7,i 1]] false
@[simp]def ed27x1_1:=rgF xd27x1_1 rfl
def xd27x1_2:EC:=.cd (t 17) (Ip [xd27x1_1,.rt]) .skip
@[simp]def ed27x1_2:=cdF xd27x1_2 rfl
def xd27y_0:EC:=.rg [o 19 .mkmap [],m 20 2,o 21 (.build [.t (.nilm),.t (.bool false)] [(0,1),(1,1)]) [t 19,t 20],o 8 (.alloc [.t (.nilm),.t (.bool false)]) [],u (.store 2) [t 8,t 21]] false
@[simp]def ed27y_0:=rgF xd27y_0 rfl
def xd27y_1:EC:=.rg [m 22 1,o 23 .lenL [t 22],o 24 .mv [i 0]] false
@[simp]def ed27y_1:=rgF xd27y_1 rfl
def xd27y_2:EC:=.rg [o 25 (.bin .lss) [t 24,t 23]] false
@[simp]def ed27y_2:=rgF xd27y_2 rfl
def xd27y_3:EC:=.cd (t 25) .skip (.ex 0)
@[simp]def ed27y_3:=cdF xd27y_3 rfl
def xd27y_4:EC:=.rg [o 26 (.iaS 1) [t 22,t 24],o 27 (.load 1 false) [t 26],m 10 27] false
@[simp]def ed27y_4:=rgF xd27y_4 rfl
def xd27y_5:EC:=.rg [o 28 (.faddr 0) [t 8],o 29 (.load 1 false) [t 28],m 30 10,u (.mup false [2]) [t 29,t 30,b true]] false
@[simp]def ed27y_5:=rgF xd27y_5 rfl
def xd27y_6:EC:=.bk 1 (Ip [xd27y_4,xd27y_5])
@[simp]def ed27y_6:=bkF xd27y_6 rfl
def xd27y_7:EC:=.rg [o 31 (.bin .add) [t 24,i 1],m 24 31] false
@[simp]def ed27y_7:=rgF xd27y_7 rfl
def xd27y_8:EC:=.bk 0 (.lp (Ip [xd27y_2,xd27y_3,xd27y_6,xd27y_7]))
@[simp]def ed27y_8:=bkF xd27y_8 rfl
def xd27y_9:EC:=.rg [o 32 (.load 2 true) [t 8],o 33 (.load 6 true) [t 3],o 34 (.call 64) [t 32,t 33],m 6 34,u (.store 1) [t 7,i 0]] false
@[simp]def ed27y_9:=rgF xd27y_9 rfl
theorem kd_27:ecD Tryz.prog 27=some (35,[xd27x0_0,(Ip [xd27x1_0,xd27x1_2])],(62,[t 7],18),(Ip [xd27y_0,(Ip [xd27y_1,xd27y_8]),xd27y_9,.rt]),[.tm 6,.ce 7 1 false]):=by kernel_rfl
def xd47x0_0:EC:=.rg [o 2 .box [t 0],o 4 (.alloc [.t (.int .i64 0)]) []] false
@[simp]def ed47x0_0:=rgF xd47x0_0 rfl
def xd47y_0:EC:=.rg [o 9 .mkmap [],o 10 (.faddr 1) [t 2],o 11 (.load 1 false) [t 10],o 12 (.build [.t (.nilm),.t (.bool false)] [(0,1),(1,1)]) [t 9,t 11],o 5 (.alloc [.t (.nilm),.t (.bool false)]) [],u (.store 2) [t 5,t 12]] false
@[simp]def ed47y_0:=rgF xd47y_0 rfl
def xd47y_1:EC:=.rg [o 13 (.faddr 2) [t 2],o 14 (.load 1 false) [t 13],o 15 .lenL [t 14],o 16 .mv [i 0]] false
@[simp]def ed47y_1:=rgF xd47y_1 rfl
def xd47y_2:EC:=.rg [o 17 (.bin .lss) [t 16,t 15]] false
@[simp]def ed47y_2:=rgF xd47y_2 rfl
def xd47y_3:EC:=.cd (t 17) .skip (.ex 0)
@[simp]def ed47y_3:=cdF xd47y_3 rfl
def xd47y_4:EC:=.rg [o 18 (.iaS 9) [t 14,t 16],o 19 (.load 9 true) [t 18],o 7 (.alloc [.t (.int .i64 0),.t (.int .i64 0),.t (.str []),.t (.int .i64 0),.t (.int .i64 0),.t (.int .i64 0),.t (.int .i64 0),.t (.str []),.snil]) [],u (.store 9) [t 7,t 19]] false
@[simp]def ed47y_4:=rgF xd47y_4 rfl
def xd47y_5:EC:=.rg [o 20 (.load 2 true) [t 5],o 21 (.load 9 true) [t 7],m 22 1,o 23 (.call 100) [t 20,t 21,t 22]] false
@[simp]def ed47y_5:=rgF xd47y_5 rfl
def xd47y_6:EC:=.bk 1 (Ip [xd47y_4,xd47y_5])
@[simp]def ed47y_6:=bkF xd47y_6 rfl
def xd47y_7:EC:=.rg [o 24 (.bin .add) [t 16,i 1],m 16 24] false
@[simp]def ed47y_7:=rgF xd47y_7 rfl
def xd47y_8:EC:=.bk 0 (.lp (Ip [xd47y_2,xd47y_3,xd47y_6,xd47y_7]))
@[simp]def ed47y_8:=bkF xd47y_8 rfl
def xd47y_9:EC:=.rg [o 25 (.load 2 true) [t 5],o 26 (.faddr 3) [t 2],o 27 (.load 1 false) [t 26],m 28 1,o 29 (.call 101) [t 25,t 27,t 28]] false
@[simp]def ed47y_9:=rgF xd47y_9 rfl
def xd47y_10:EC:=.rg [u (.store 1) [t 4,i 0]] false
@[simp]def ed47y_10:=rgF xd47y_10 rfl
theorem kd_47:ecD Tryz.prog 47=some (30,[xd47x0_0],(99,[t 4],8),(Ip [xd47y_0,(Ip [xd47y_1,xd47y_8]),xd47y_9,xd47y_10,.rt]),[.ce 4 1 false]):=by kernel_rfl
end Go.Proofs.YtmlpmdccfmmpoaaGreatDoor
