/- The code of functions, as the engine reads it, out of the translation. -/
import Derived.Test.YtmlpmdccfmmpoaaGreatDoorCodeM
set_option linter.unusedSimpArgs false
set_option linter.unusedVariables false
set_option linter.defProp false
set_option maxRecDepth 10000
set_option maxRecDepth 20000
set_option maxHeartbeats 4000000
namespace Go.Proofs.YtmlpmdccfmmpoaaGreatDoor
open Go Go.Proofs E E.Z
attribute [local simp] Value.cells List.range List.range.loop List.lookup E.TK E.toks E.tkR E.tokR E.eqs E.eoD E.eopOf E.kindB E.nestO E.nestV E.kindOf E.shapeOf E.placesOf E.fieldsKnown E.constV E.constV1 E.constVs E.cellsV E.eqCells E.eqFs E.opds E.opd_t E.opd_k E.opd_f E.zeroOf E.mapOf E.keyOf E.aggD E.isAggV E.bldT E.fieldOf E.isShift E.isCallE E.cellB A4q A4r A4s Tryz.t3 Tryz.t4 Tryz.t5 Tryz.t9 Tryz.t20 Tryz.t21 Tryz.t22 Tryz.t23 Tryz.t24 Tryz.t25 Tryz.t30 Tryz.t31 Tryz.t32 Tryz.t33 Tryz.t34 Tryz.t35 Tryz.t36 Tryz.t38 Tryz.t39 Tryz.t42 Tryz.t45 Tryz.t46 Tryz.t47 Tryz.t51 Tryz.t54 Tryz.t55 Tryz.t61 Tryz.t62 Tryz.t63 Tryz.t64 Tryz.t65 Tryz.t66 Tryz.t67 Tryz.t68 Tryz.t69 Tryz.t70 Tryz.t71 Tryz.t72 Tryz.t73 Tryz.t74 Tryz.t75 Tryz.t76 Tryz.t77 Tryz.t78 Tryz.t79 Tryz.t83 Tryz.t84 Tryz.t85 Tryz.t92 Tryz.t93 Tryz.t95 Tryz.t96 Tryz.t97 Tryz.t98 Tryz.t100 Tryz.t101 Tryz.t102 Tryz.t103 Tryz.t104 Tryz.t105 Tryz.t106 Tryz.t107 Tryz.t109 Tryz.t110 Tryz.t127 Tryz.t131 Tryz.t132 Tryz.t133 Tryz.t137 Tryz.t138 Tryz.t139 Tryz.t145 Tryz.t148 Tryz.t149 Tryz.t150 Tryz.t161 Tryz.t164 Tryz.t165 Tryz.t172 Tryz.t173 Tryz.t174 Tryz.t175 Tryz.t176 Tryz.t179 Tryz.t188 Tryz.t189 Tryz.t197 Tryz.t198 Tryz.t214 Tryz.t215 Tryz.t219 Tryz.t238 Tryz.t239 Tryz.t242 Tryz.t243 Tryz.t273 Tryz.t312
@[simp]def e149:=nrm (eA 149) (by conv=>lhs;simp [TA,Tryz.f149])
theorem k_149:ecF Tryz.prog 149=some (21,(XA 149 11),[.tm 2]):=kC (TA 149) rfl (by kernel_rfl)
@[simp]def e150:=nrm (eA 150) (by conv=>lhs;simp [TA,Tryz.f150])
theorem k_150:ecF Tryz.prog 150=some (9,(XA 150 3),[.tm 2]):=kC (TA 150) rfl (by kernel_rfl)
@[simp]def e151:=nrm (eA 151) (by conv=>lhs;simp [TA,Tryz.f151])
theorem k_151:ecF Tryz.prog 151=some (39,(XA 151 28),[.tm 2,.tm 3]):=kC (TA 151) rfl (by kernel_rfl)
noncomputable def t152:=TK false false [(6,[3,4,5,6,7,8,9,10,11,12,13,14,15,16,17,18,19,20,0,1,1,1,1,1,17,16,18,19,20,0,1,1,1,1,1,2,1,1,1,1,1,1,1,1,1,1,1,1,1])] Tryz.prog 152
noncomputable def x152:Nat→EC:=XC t152
@[simp]def e152:=nrm (show eqs x152 t152 0 [] from by unfold x152;exact Fe _) (by conv=>lhs;simp [t152,Tryz.f152])
theorem k_152:ecF Tryz.prog 152=some (36,(x152 62),[.ce 2 2 true]):=kC (t152) rfl (by kernel_rfl)
@[simp]def e153:=nrm (eA 153) (by conv=>lhs;simp [TA,Tryz.f153])
theorem k_153:ecF Tryz.prog 153=some (27,(XA 153 7),[.ce 4 4 true]):=kC (TA 153) rfl (by kernel_rfl)
@[simp]def e154:=nrm (eA 154) (by conv=>lhs;simp [TA,Tryz.f154])
theorem k_154:ecF Tryz.prog 154=some (6,(XA 154 3),[.tm 2]):=kC (TA 154) rfl (by kernel_rfl)
@[simp]def e155:=nrm (eA 155) (by conv=>lhs;simp [TA,Tryz.f155])
theorem k_155:ecF Tryz.prog 155=some (36,(XA 155 20),[.tm 2]):=kC (TA 155) rfl (by kernel_rfl)
@[simp]def e156:=nrm (eA 156) (by conv=>lhs;simp [TA,Tryz.f156])
theorem k_156:ecF Tryz.prog 156=some (9,(XA 156 3),[.tm 4]):=kC (TA 156) rfl (by kernel_rfl)
noncomputable def t157:=TK false false [(3,[3,4,5,6,7,8,0,1,1,1,7,6,8,0,1,1,1,2,1,1,1])] Tryz.prog 157
noncomputable def x157:Nat→EC:=XC t157
@[simp]def e157:=nrm (show eqs x157 t157 0 [] from by unfold x157;exact Fe _) (by conv=>lhs;simp [t157,Tryz.f157])
theorem k_157:ecF Tryz.prog 157=some (15,(x157 27),[.ce 2 2 true,.ce 3 2 true]):=kC (t157) rfl (by kernel_rfl)
@[simp]def e158:=nrm (eA 158) (by conv=>lhs;simp [TA,Tryz.f158])
theorem k_158:ecF Tryz.prog 158=some (40,(XA 158 15),[.ce 4 2 true]):=kC (TA 158) rfl (by kernel_rfl)
@[simp]def e159:=nrm (eA 159) (by conv=>lhs;simp [TA,Tryz.f159])
theorem k_159:ecF Tryz.prog 159=some (16,(XA 159 3),[.ce 4 2 true]):=kC (TA 159) rfl (by kernel_rfl)
@[simp]def e160:=nrm (eA 160) (by conv=>lhs;simp [TA,Tryz.f160])
theorem k_160:ecF Tryz.prog 160=some (6,(XA 160 3),[.ce 2 2 true]):=kC (TA 160) rfl (by kernel_rfl)
@[simp]def e165:=nrm (eA 165) (by conv=>lhs;simp [TA,Tryz.f165])
theorem k_165:ecF Tryz.prog 165=some (14,(XA 165 35),[.tm 2]):=kC (TA 165) rfl (by kernel_rfl)
@[simp]def e166:=nrm (eA 166) (by conv=>lhs;simp [TA,Tryz.f166])
theorem k_166:ecF Tryz.prog 166=some (76,(XA 166 43),[.tm 6]):=kC (TA 166) rfl (by kernel_rfl)
@[simp]def e167:=nrm (eA 167) (by conv=>lhs;simp [TA,Tryz.f167])
theorem k_167:ecF Tryz.prog 167=some (29,(XA 167 52),[.tm 2]):=kC (TA 167) rfl (by kernel_rfl)
@[simp]def e168:=nrm (eA 168) (by conv=>lhs;simp [TA,Tryz.f168])
theorem k_168:ecF Tryz.prog 168=some (31,(XA 168 25),[.tm 2,.tm 3]):=kC (TA 168) rfl (by kernel_rfl)
@[simp]def e169:=nrm (eA 169) (by conv=>lhs;simp [TA,Tryz.f169])
theorem k_169:ecF Tryz.prog 169=some (39,(XA 169 29),[.tm 2,.tm 3]):=kC (TA 169) rfl (by kernel_rfl)
@[simp]def e170:=nrm (eA 170) (by conv=>lhs;simp [TA,Tryz.f170])
theorem k_170:ecF Tryz.prog 170=some (19,(XA 170 18),[.tm 2]):=kC (TA 170) rfl (by kernel_rfl)
@[simp]def e171:=nrm (eA 171) (by conv=>lhs;simp [TA,Tryz.f171])
theorem k_171:ecF Tryz.prog 171=some (9,(XA 171 3),[.tm 4]):=kC (TA 171) rfl (by kernel_rfl)
@[simp]def e172:=nrm (eA 172) (by conv=>lhs;simp [TA,Tryz.f172])
theorem k_172:ecF Tryz.prog 172=some (6,(XA 172 3),[.tm 2]):=kC (TA 172) rfl (by kernel_rfl)
@[simp]def e173:=nrm (eA 173) (by conv=>lhs;simp [TA,Tryz.f173])
theorem k_173:ecF Tryz.prog 173=some (9,(XA 173 3),[.tm 2]):=kC (TA 173) rfl (by kernel_rfl)
@[simp]def e174:=nrm (eA 174) (by conv=>lhs;simp [TA,Tryz.f174])
theorem k_174:ecF Tryz.prog 174=some (93,(XA 174 45),[.tm 4,.tm 5]):=kC (TA 174) rfl (by kernel_rfl)
@[simp]def e175:=nrm (eA 175) (by conv=>lhs;simp [TA,Tryz.f175])
theorem k_175:ecF Tryz.prog 175=some (21,(XA 175 11),[.tm 2]):=kC (TA 175) rfl (by kernel_rfl)
@[simp]def e176:=nrm (eA 176) (by conv=>lhs;simp [TA,Tryz.f176])
theorem k_176:ecF Tryz.prog 176=some (15,(XA 176 5),[.ce 4 2 true]):=kC (TA 176) rfl (by kernel_rfl)
@[simp]def e177:=nrm (eA 177) (by conv=>lhs;simp [TA,Tryz.f177])
theorem k_177:ecF Tryz.prog 177=some (78,(XA 177 47),[.tm 4,.tm 5]):=kC (TA 177) rfl (by kernel_rfl)
@[simp]def e178:=nrm (eA 178) (by conv=>lhs;simp [TA,Tryz.f178])
theorem k_178:ecF Tryz.prog 178=some (29,(XA 178 23),[.tm 4]):=kC (TA 178) rfl (by kernel_rfl)
noncomputable def t179:=TK false false [(3,[3,4,5,6,7,8,0,1,1,1,7,6,8,0,1,1,1,2,1,1,1])] Tryz.prog 179
noncomputable def x179:Nat→EC:=XC t179
@[simp]def e179:=nrm (show eqs x179 t179 0 [] from by unfold x179;exact Fe _) (by conv=>lhs;simp [t179,Tryz.f179])
theorem k_179:ecF Tryz.prog 179=some (15,(x179 27),[.ce 2 2 true,.ce 3 2 true]):=kC (t179) rfl (by kernel_rfl)
@[simp]def e180:=nrm (eA 180) (by conv=>lhs;simp [TA,Tryz.f180])
theorem k_180:ecF Tryz.prog 180=some (40,(XA 180 15),[.ce 4 2 true]):=kC (TA 180) rfl (by kernel_rfl)
@[simp]def e181:=nrm (eA 181) (by conv=>lhs;simp [TA,Tryz.f181])
theorem k_181:ecF Tryz.prog 181=some (16,(XA 181 3),[.ce 4 2 true]):=kC (TA 181) rfl (by kernel_rfl)
@[simp]def e182:=nrm (eA 182) (by conv=>lhs;simp [TA,Tryz.f182])
theorem k_182:ecF Tryz.prog 182=some (9,(XA 182 3),[.ce 4 2 true]):=kC (TA 182) rfl (by kernel_rfl)
@[simp]def e183:=nrm (eA 183) (by conv=>lhs;simp [TA,Tryz.f183])
theorem k_183:ecF Tryz.prog 183=some (54,(XA 183 33),[.tm 4]):=kC (TA 183) rfl (by kernel_rfl)
@[simp]def e184:=nrm (eA 184) (by conv=>lhs;simp [TA,Tryz.f184])
theorem k_184:ecF Tryz.prog 184=some (41,(XA 184 37),[.tm 4]):=kC (TA 184) rfl (by kernel_rfl)
@[simp]def e185:=nrm (eA 185) (by conv=>lhs;simp [TA,Tryz.f185])
theorem k_185:ecF Tryz.prog 185=some (41,(XA 185 33),[.tm 4]):=kC (TA 185) rfl (by kernel_rfl)
@[simp]def e186:=nrm (eA 186) (by conv=>lhs;simp [TA,Tryz.f186])
theorem k_186:ecF Tryz.prog 186=some (64,(XA 186 33),[.tm 4]):=kC (TA 186) rfl (by kernel_rfl)
@[simp]def e199:=nrm (eA 199) (by conv=>lhs;simp [TA,Tryz.f199])
theorem k_199:ecF Tryz.prog 199=some (9,(XA 199 3),[.tm 2]):=kC (TA 199) rfl (by kernel_rfl)
@[simp]def e200:=nrm (eA 200) (by conv=>lhs;simp [TA,Tryz.f200])
theorem k_200:ecF Tryz.prog 200=some (9,(XA 200 3),[.tm 2]):=kC (TA 200) rfl (by kernel_rfl)
@[simp]def e201:=nrm (eA 201) (by conv=>lhs;simp [TA,Tryz.f201])
theorem k_201:ecF Tryz.prog 201=some (21,(XA 201 21),[.tm 4]):=kC (TA 201) rfl (by kernel_rfl)
@[simp]def e202:=nrm (eA 202) (by conv=>lhs;simp [TA,Tryz.f202])
theorem k_202:ecF Tryz.prog 202=some (13,(XA 202 3),[.tm 2]):=kC (TA 202) rfl (by kernel_rfl)
@[simp]def e203:=nrm (eA 203) (by conv=>lhs;simp [TA,Tryz.f203])
theorem k_203:ecF Tryz.prog 203=some (9,(XA 203 3),[.tm 2]):=kC (TA 203) rfl (by kernel_rfl)
@[simp]def e204:=nrm (eA 204) (by conv=>lhs;simp [TA,Tryz.f204])
theorem k_204:ecF Tryz.prog 204=some (9,(XA 204 3),[.tm 4]):=kC (TA 204) rfl (by kernel_rfl)
@[simp]def e205:=nrm (eA 205) (by conv=>lhs;simp [TA,Tryz.f205])
theorem k_205:ecF Tryz.prog 205=some (106,(XA 205 86),[.tm 2]):=kC (TA 205) rfl (by kernel_rfl)
@[simp]def e206:=nrm (eA 206) (by conv=>lhs;simp [TA,Tryz.f206])
theorem k_206:ecF Tryz.prog 206=some (8,(XA 206 3),[.tm 4]):=kC (TA 206) rfl (by kernel_rfl)
@[simp]def e207:=nrm (eA 207) (by conv=>lhs;simp [TA,Tryz.f207])
theorem k_207:ecF Tryz.prog 207=some (19,(XA 207 21),[.tm 4]):=kC (TA 207) rfl (by kernel_rfl)
@[simp]def e208:=nrm (eA 208) (by conv=>lhs;simp [TA,Tryz.f208])
theorem k_208:ecF Tryz.prog 208=some (41,(XA 208 37),[.tm 4]):=kC (TA 208) rfl (by kernel_rfl)
@[simp]def e209:=nrm (eA 209) (by conv=>lhs;simp [TA,Tryz.f209])
theorem k_209:ecF Tryz.prog 209=some (44,(XA 209 23),[.tm 4,.tm 5]):=kC (TA 209) rfl (by kernel_rfl)
@[simp]def e210:=nrm (eA 210) (by conv=>lhs;simp [TA,Tryz.f210])
theorem k_210:ecF Tryz.prog 210=some (85,(XA 210 53),[.tm 4]):=kC (TA 210) rfl (by kernel_rfl)
@[simp]def eb212:=nrm (eB 212) (by conv=>lhs;simp [TB,Tryz.f212])
theorem kb_212:ecB Tryz.prog 212=some (69,(XB 212 46),[.tm 4]):=kC (TB 212) rfl (by kernel_rfl)
@[simp]def e220:=nrm (eA 220) (by conv=>lhs;simp [TA,Tryz.f220])
theorem k_220:ecF Tryz.prog 220=some (19,(XA 220 21),[.tm 4]):=kC (TA 220) rfl (by kernel_rfl)
def xd27x0_0:EC:=.rg [o 3 .box [t 0],o 6 .mv [i 0],o 7 (.alloc [.t (.int .i64 0)]) []] false
@[simp]def ed27x0_0:=rgF xd27x0_0 rfl
def xd27x1_0:EC:=.rg [o 11 (.load 6 true) [t 3],o 12 (.build [.t (.int .i64 0),.t (.int .i64 0),.t (.str []),.t (.int .i64 0),.t (.int .i64 0),.t (.int .i64 0),.t (.int .i64 0),.t (.str []),.snil] [(0,1),(3,6)]) [i 2,t 11],o 13 (.bsl 9) [t 12],o 14 (.build [.t (.str []),.t (.bool false),.snil,.t (.int .i64 0)] [(0,1),(2,1),(3,1)]) [c (.t (.str [114])),t 13,i 1],o 15 (.bsl 4) [t 14],o 16 (.call 45) [t 15],o 17 (.un .not) [t 16]] false
@[simp]def ed27x1_0:=rgF xd27x1_0 rfl
def xd27x1_1:EC:=.rg [o 6 .mv [i 0],u (.store 1) [t 7,i 1]] false
@[simp]def ed27x1_1:=rgF xd27x1_1 rfl
def xd27x1_2:EC:=.cd (t 17) (Iv [xd27x1_1,.rt]) .skip
@[simp]def ed27x1_2:=cdF xd27x1_2 rfl
def xd27y_0:EC:=.rg [o 19 .mkmap [],m 20 2,o 21 (.build [.t (.nilm),.t (.bool false)] [(0,1),(1,1)]) [t 19,t 20],o 8 (.alloc [.t (.nilm),.t (.bool false)]) [],u (.store 2) [t 8,t 21]] false
@[simp]def ed27y_0:=rgF xd27y_0 rfl
def xd27y_1:EC:=.rg [m 22 1,o 23 .lenL [t 22],o 24 .mv [i 0]] false
@[simp]def ed27y_1:=rgF xd27y_1 rfl
def xd27y_2:EC:=.rg [o 25 (.bin .lss) [t 24,t 23]] false
@[simp]def ed27y_2:=rgF xd27y_2 rfl
def xd27y_3:EC:=.cd (t 25) .skip (.ex 0)
@[simp]def ed27y_3:=cdF xd27y_3 rfl
def xd27y_4:EC:=.rg [o 26 (.iaS 1) [t 22,t 24],o 27 (.load 1 false) [t 26],m 10 27] false
@[simp]def ed27y_4:=rgF xd27y_4 rfl
def xd27y_5:EC:=.rg [o 28 (.faddr 0) [t 8],o 29 (.load 1 false) [t 28],m 30 10,u (.mup false [2]) [t 29,t 30,b true]] false
@[simp]def ed27y_5:=rgF xd27y_5 rfl
def xd27y_6:EC:=.bk 1 (Iv [xd27y_4,xd27y_5])
@[simp]def ed27y_6:=bkF xd27y_6 rfl
def xd27y_7:EC:=.rg [o 31 (.bin .add) [t 24,i 1],m 24 31] false
@[simp]def ed27y_7:=rgF xd27y_7 rfl
def xd27y_8:EC:=.bk 0 (.lp (Iv [xd27y_2,xd27y_3,xd27y_6,xd27y_7]))
@[simp]def ed27y_8:=bkF xd27y_8 rfl
def xd27y_9:EC:=.rg [o 32 (.load 2 true) [t 8],o 33 (.load 6 true) [t 3],o 34 (.call 64) [t 32,t 33],m 6 34,u (.store 1) [t 7,i 0]] false
@[simp]def ed27y_9:=rgF xd27y_9 rfl
theorem kd_27:ecD Tryz.prog 27=some (35,[xd27x0_0,(Iv [xd27x1_0,xd27x1_2])],(62,[t 7],18),(Iv [xd27y_0,(Iv [xd27y_1,xd27y_8]),xd27y_9,.rt]),[.tm 6,.ce 7 1 false]):=by kernel_rfl
def xd47x0_0:EC:=.rg [o 2 .box [t 0],o 4 (.alloc [.t (.int .i64 0)]) []] false
@[simp]def ed47x0_0:=rgF xd47x0_0 rfl
def xd47y_0:EC:=.rg [o 9 .mkmap [],o 10 (.faddr 1) [t 2],o 11 (.load 1 false) [t 10],o 12 (.build [.t (.nilm),.t (.bool false)] [(0,1),(1,1)]) [t 9,t 11],o 5 (.alloc [.t (.nilm),.t (.bool false)]) [],u (.store 2) [t 5,t 12]] false
@[simp]def ed47y_0:=rgF xd47y_0 rfl
def xd47y_1:EC:=.rg [o 13 (.faddr 2) [t 2],o 14 (.load 1 false) [t 13],o 15 .lenL [t 14],o 16 .mv [i 0]] false
@[simp]def ed47y_1:=rgF xd47y_1 rfl
def xd47y_2:EC:=.rg [o 17 (.bin .lss) [t 16,t 15]] false
@[simp]def ed47y_2:=rgF xd47y_2 rfl
def xd47y_3:EC:=.cd (t 17) .skip (.ex 0)
@[simp]def ed47y_3:=cdF xd47y_3 rfl
def xd47y_4:EC:=.rg [o 18 (.iaS 9) [t 14,t 16],o 19 (.load 9 true) [t 18],o 7 (.alloc [.t (.int .i64 0),.t (.int .i64 0),.t (.str []),.t (.int .i64 0),.t (.int .i64 0),.t (.int .i64 0),.t (.int .i64 0),.t (.str []),.snil]) [],u (.store 9) [t 7,t 19]] false
@[simp]def ed47y_4:=rgF xd47y_4 rfl
def xd47y_5:EC:=.rg [o 20 (.load 2 true) [t 5],o 21 (.load 9 true) [t 7],m 22 1,o 23 (.call 100) [t 20,t 21,t 22]] false
@[simp]def ed47y_5:=rgF xd47y_5 rfl
def xd47y_6:EC:=.bk 1 (Iv [xd47y_4,xd47y_5])
@[simp]def ed47y_6:=bkF xd47y_6 rfl
def xd47y_7:EC:=.rg [o 24 (.bin .add) [t 16,i 1],m 16 24] false
@[simp]def ed47y_7:=rgF xd47y_7 rfl
def xd47y_8:EC:=.bk 0 (.lp (Iv [xd47y_2,xd47y_3,xd47y_6,xd47y_7]))
@[simp]def ed47y_8:=bkF xd47y_8 rfl
def xd47y_9:EC:=.rg [o 25 (.load 2 true) [t 5],o 26 (.faddr 3) [t 2],o 27 (.load 1 false) [t 26],m 28 1,o 29 (.call 101) [t 25,t 27,t 28]] false
@[simp]def ed47y_9:=rgF xd47y_9 rfl
def xd47y_10:EC:=.rg [u (.store 1) [t 4,i 0]] false
@[simp]def ed47y_10:=rgF xd47y_10 rfl
theorem kd_47:ecD Tryz.prog 47=some (30,[xd47x0_0],(99,[t 4],8),(Iv [xd47y_0,(Iv [xd47y_1,xd47y_8]),xd47y_9,xd47y_10,.rt]),[.ce 4 1 false]):=by kernel_rfl
end Go.Proofs.YtmlpmdccfmmpoaaGreatDoor
