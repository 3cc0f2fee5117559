/- The code of the functions of this seat, as the engine reads it; printed by program out of the translation, checked by the kernel. -/
import Derived.Test.YtoepkeppgfbplaaDoorEe
import Derived.Test.YtoepkeppgfbplaaDoorProg
set_option linter.unusedSimpArgs false
set_option linter.unusedVariables false
set_option linter.defProp false
namespace Go.Proofs.YtoepkeppgfbplaaDoor
open Go.Proofs E E.Z
variable {P : Program} {nb nt : Nat} {Q : Ex → Fr → St → Prop} {a : Fr} {S : St}
def x7_0:EC:=.rg [o 2 .mv [b false]] false
@[simp]def e7_0:=rgF x7_0 rfl
def x7_1:EC:=.rg [o 13 (.call 10) [],o 14 (.un .not) [t 13]] false
@[simp]def e7_1:=rgF x7_1 rfl
def x7_2:EC:=.rg [o 2 .mv [b false]] false
@[simp]def e7_2:=rgF x7_2 rfl
def x7_3:EC:=.cd (t 14) (seqs [x7_2,.rt]) .skip
@[simp]def e7_3:=cdF x7_3 rfl
def x7_4:EC:=.rg [m 15 0,o 16 .lenS [t 15],o 17 (.bin .gtr) [t 16, i 9000]] false
@[simp]def e7_4:=rgF x7_4 rfl
def x7_5:EC:=.rg [o 2 .mv [b true]] false
@[simp]def e7_5:=rgF x7_5 rfl
def x7_6:EC:=.cd (t 17) (seqs [x7_5,.rt]) .skip
@[simp]def e7_6:=cdF x7_6 rfl
def x7_7:EC:=.rg [m 19 0,o 20 (.call 18) [t 19],m 18 20,o 21 (.ext 0) [t 18],o 22 (.ext 1) [t 18],o 23 (.ext 2) [t 18],m 3 21,m 4 22,m 5 23] false
@[simp]def e7_7:=rgF x7_7 rfl
def x7_8:EC:=.rg [m 24 5,o 25 (.bin .neq) [t 24, i 0]] false
@[simp]def e7_8:=rgF x7_8 rfl
def x7_9:EC:=.rg [m 26 3,o 27 .lenL [t 26],o 28 (.bin .eql) [t 27, i 0],m 2 28] false
@[simp]def e7_9:=rgF x7_9 rfl
def x7_10:EC:=.cd (t 25) (seqs [x7_9,.rt]) .skip
@[simp]def e7_10:=cdF x7_10 rfl
def x7_11:EC:=.rg [m 30 3,o 31 (.call 12) [t 30],m 29 31,o 32 (.ext 0) [t 29],o 33 (.ext 1) [t 29],m 6 32,m 7 33] false
@[simp]def e7_11:=rgF x7_11 rfl
def x7_12:EC:=.rg [m 34 7,o 35 (.bin .eql) [t 34, i 6]] false
@[simp]def e7_12:=rgF x7_12 rfl
def x7_13:EC:=.rg [m 36 6,o 37 (.bin .eql) [t 36, c (.t (.str []))],m 2 37] false
@[simp]def e7_13:=rgF x7_13 rfl
def x7_14:EC:=.cd (t 35) (seqs [x7_13,.rt]) .skip
@[simp]def e7_14:=cdF x7_14 rfl
def x7_15:EC:=.rg [m 39 6,o 40 (.call 18) [t 39],m 38 40,o 41 (.ext 0) [t 38],o 42 (.ext 1) [t 38],o 43 (.ext 2) [t 38],m 8 41,m 9 42,m 10 43] false
@[simp]def e7_15:=rgF x7_15 rfl
def x7_16:EC:=.rg [m 45 8,o 46 (.call 12) [t 45],m 44 46,o 47 (.ext 0) [t 44],o 48 (.ext 1) [t 44],m 11 47,m 12 48] false
@[simp]def e7_16:=rgF x7_16 rfl
def x7_17:EC:=.rg [m 49 7,o 50 (.bin .eql) [t 49, i 0],m 51 50,y 52 51 .mv [t 10],y 53 51 (.bin .eql) [t 52, i 0],o 54 .pick [t 51, t 53, b false],m 55 54,y 56 55 .mv [t 12],y 57 55 (.bin .eql) [t 56, i 0],o 58 .pick [t 55, t 57, b false],m 59 58,y 60 59 .mv [t 6],y 61 59 .mv [t 11],y 62 59 (.bin .eql) [t 60, t 61],o 63 .pick [t 59, t 62, b false],m 64 63,y 65 64 .mv [t 3],y 66 64 .mv [t 8],y 67 64 (.call 19) [t 65, t 66],o 68 .pick [t 64, t 67, b false],m 2 68] false
@[simp]def e7_17:=rgF x7_17 rfl
def c_tallystonelaw32_SyntaxNormal_7 : EC := (seqs [x7_0,(seqs [x7_1,x7_3]),(seqs [x7_4,x7_6]),x7_7,(seqs [x7_8,x7_10]),x7_11,(seqs [x7_12,x7_14]),x7_15,x7_16,x7_17,.rt])
theorem k_7 : ecF Tryd.prog 7 = some (69, c_tallystonelaw32_SyntaxNormal_7, [.tm 2]) := by kernel_rfl

def x19_0:EC:=.rg [o 4 .mv [b false]] false
@[simp]def e19_0:=rgF x19_0 rfl
def x19_1:EC:=.rg [m 5 0,m 6 1,o 7 (.call 47) [t 5, t 6, c (.fn (.func 48) [])],m 4 7] false
@[simp]def e19_1:=rgF x19_1 rfl
def c_syntax_Same_19 : EC := (seqs [x19_0,x19_1,.rt])
theorem k_19 : ecF Tryd.prog 19 = some (8, c_syntax_Same_19, [.tm 4]) := by kernel_rfl

def x47_0:EC:=.rg [o 6 .mv [b false]] false
@[simp]def e47_0:=rgF x47_0 rfl
def x47_1:EC:=.rg [m 10 0,o 11 .lenL [t 10],m 12 1,o 13 .lenL [t 12],o 14 (.bin .neq) [t 11, t 13]] false
@[simp]def e47_1:=rgF x47_1 rfl
def x47_2:EC:=.rg [o 6 .mv [b false]] false
@[simp]def e47_2:=rgF x47_2 rfl
def x47_3:EC:=.cd (t 14) (seqs [x47_2,.rt]) .skip
@[simp]def e47_3:=cdF x47_3 rfl
def x47_4:EC:=.rg [m 15 0,o 16 .lenL [t 15],o 17 .mv [i 0]] false
@[simp]def e47_4:=rgF x47_4 rfl
def x47_5:EC:=.rg [o 18 (.bin .lss) [t 17, t 16]] false
@[simp]def e47_5:=rgF x47_5 rfl
def x47_6:EC:=.cd (t 18) .skip (.ex 0)
@[simp]def e47_6:=cdF x47_6 rfl
def x47_7:EC:=.rg [m 19 17,o 20 (.iaS 4) [t 15, t 17],o 21 (.load 4 true) [t 20],o 8 (.alloc [.t (.str []), .t (.bool false), .snil, .t (.int .i64 0)]) [],m 7 19,u (.store 4) [t 8, t 21]] false
@[simp]def e47_7:=rgF x47_7 rfl
def x47_8:EC:=.rg [m 22 1,m 23 7,o 24 (.iaS 4) [t 22, t 23],o 25 (.load 4 true) [t 24],o 9 (.alloc [.t (.str []), .t (.bool false), .snil, .t (.int .i64 0)]) [],u (.store 4) [t 9, t 25]] false
@[simp]def e47_8:=rgF x47_8 rfl
def x47_9:EC:=.rg [m 26 2,o 27 (.load 4 true) [t 8],o 28 (.load 4 true) [t 9],o 29 .callv [t 26, t 27, t 28],o 30 (.un .not) [t 29]] false
@[simp]def e47_9:=rgF x47_9 rfl
def x47_10:EC:=.rg [o 6 .mv [b false]] false
@[simp]def e47_10:=rgF x47_10 rfl
def x47_11:EC:=.cd (t 30) (seqs [x47_10,.rt]) .skip
@[simp]def e47_11:=cdF x47_11 rfl
def x47_12:EC:=.bk 1 (seqs [x47_7,x47_8,x47_9,x47_11])
@[simp]def e47_12:=bkF x47_12 rfl
def x47_13:EC:=.rg [o 31 (.bin .add) [t 17, i 1],m 17 31] false
@[simp]def e47_13:=rgF x47_13 rfl
def x47_14:EC:=.bk 0 (.lp (seqs [x47_5,x47_6,x47_12,x47_13]))
@[simp]def e47_14:=bkF x47_14 rfl
def x47_15:EC:=.rg [o 6 .mv [b true]] false
@[simp]def e47_15:=rgF x47_15 rfl
def c_syntax_Rule__47 : EC := (seqs [x47_0,(seqs [x47_1,x47_3]),(seqs [x47_4,x47_14]),x47_15,.rt])
theorem k_47 : ecF Tryd.prog 47 = some (32, c_syntax_Rule__47, [.tm 6]) := by kernel_rfl

def x48_0:EC:=.rg [o 2 .box [t 0],o 3 .box [t 1],o 4 .mv [b false]] false
@[simp]def e48_0:=rgF x48_0 rfl
def x48_1:EC:=.rg [o 5 (.faddr 0) [t 2],o 6 (.load 1 false) [t 5],o 7 (.faddr 0) [t 3],o 8 (.load 1 false) [t 7],o 9 (.bin .eql) [t 6, t 8],m 10 9,y 11 10 (.faddr 1) [t 2],y 12 10 (.load 1 false) [t 11],y 13 10 (.faddr 1) [t 3],y 14 10 (.load 1 false) [t 13],y 15 10 (.eqv false false [0]) [t 12, t 14],o 16 .pick [t 10, t 15, b false],m 17 16,y 18 17 (.faddr 3) [t 2],y 19 17 (.load 1 false) [t 18],y 20 17 (.faddr 3) [t 3],y 21 17 (.load 1 false) [t 20],y 22 17 (.bin .eql) [t 19, t 21],o 23 .pick [t 17, t 22, b false],m 24 23,y 25 24 (.faddr 2) [t 2],y 26 24 (.load 1 false) [t 25],y 27 24 (.faddr 2) [t 3],y 28 24 (.load 1 false) [t 27],y 29 24 (.call 49) [t 26, t 28, c (.fn (.func 50) [])],o 30 .pick [t 24, t 29, b false],m 4 30] false
@[simp]def e48_1:=rgF x48_1 rfl
def c_syntax_SameS1_48 : EC := (seqs [x48_0,x48_1,.rt])
theorem k_48 : ecF Tryd.prog 48 = some (31, c_syntax_SameS1_48, [.tm 4]) := by kernel_rfl

def x49_0:EC:=.rg [o 6 .mv [b false]] false
@[simp]def e49_0:=rgF x49_0 rfl
def x49_1:EC:=.rg [m 10 0,o 11 .lenL [t 10],m 12 1,o 13 .lenL [t 12],o 14 (.bin .neq) [t 11, t 13]] false
@[simp]def e49_1:=rgF x49_1 rfl
def x49_2:EC:=.rg [o 6 .mv [b false]] false
@[simp]def e49_2:=rgF x49_2 rfl
def x49_3:EC:=.cd (t 14) (seqs [x49_2,.rt]) .skip
@[simp]def e49_3:=cdF x49_3 rfl
def x49_4:EC:=.rg [m 15 0,o 16 .lenL [t 15],o 17 .mv [i 0]] false
@[simp]def e49_4:=rgF x49_4 rfl
def x49_5:EC:=.rg [o 18 (.bin .lss) [t 17, t 16]] false
@[simp]def e49_5:=rgF x49_5 rfl
def x49_6:EC:=.cd (t 18) .skip (.ex 0)
@[simp]def e49_6:=cdF x49_6 rfl
def x49_7:EC:=.rg [m 19 17,o 20 (.iaS 9) [t 15, t 17],o 21 (.load 9 true) [t 20],o 8 (.alloc [.t (.int .i64 0), .t (.int .i64 0), .t (.str []), .t (.int .i64 0), .t (.int .i64 0), .t (.int .i64 0), .t (.int .i64 0), .t (.str []), .snil]) [],m 7 19,u (.store 9) [t 8, t 21]] false
@[simp]def e49_7:=rgF x49_7 rfl
def x49_8:EC:=.rg [m 22 1,m 23 7,o 24 (.iaS 9) [t 22, t 23],o 25 (.load 9 true) [t 24],o 9 (.alloc [.t (.int .i64 0), .t (.int .i64 0), .t (.str []), .t (.int .i64 0), .t (.int .i64 0), .t (.int .i64 0), .t (.int .i64 0), .t (.str []), .snil]) [],u (.store 9) [t 9, t 25]] false
@[simp]def e49_8:=rgF x49_8 rfl
def x49_9:EC:=.rg [m 26 2,o 27 (.load 9 true) [t 8],o 28 (.load 9 true) [t 9],o 29 .callv [t 26, t 27, t 28],o 30 (.un .not) [t 29]] false
@[simp]def e49_9:=rgF x49_9 rfl
def x49_10:EC:=.rg [o 6 .mv [b false]] false
@[simp]def e49_10:=rgF x49_10 rfl
def x49_11:EC:=.cd (t 30) (seqs [x49_10,.rt]) .skip
@[simp]def e49_11:=cdF x49_11 rfl
def x49_12:EC:=.bk 1 (seqs [x49_7,x49_8,x49_9,x49_11])
@[simp]def e49_12:=bkF x49_12 rfl
def x49_13:EC:=.rg [o 31 (.bin .add) [t 17, i 1],m 17 31] false
@[simp]def e49_13:=rgF x49_13 rfl
def x49_14:EC:=.bk 0 (.lp (seqs [x49_5,x49_6,x49_12,x49_13]))
@[simp]def e49_14:=bkF x49_14 rfl
def x49_15:EC:=.rg [o 6 .mv [b true]] false
@[simp]def e49_15:=rgF x49_15 rfl
def c_syntax_Stmt__49 : EC := (seqs [x49_0,(seqs [x49_1,x49_3]),(seqs [x49_4,x49_14]),x49_15,.rt])
theorem k_49 : ecF Tryd.prog 49 = some (32, c_syntax_Stmt__49, [.tm 6]) := by kernel_rfl

def x50_0:EC:=.rg [o 2 .box [t 0],o 3 .box [t 1],o 4 .mv [b false]] false
@[simp]def e50_0:=rgF x50_0 rfl
def x50_1:EC:=.rg [o 5 (.faddr 0) [t 2],o 6 (.load 1 false) [t 5],o 7 (.faddr 0) [t 3],o 8 (.load 1 false) [t 7],o 9 (.bin .eql) [t 6, t 8],m 10 9,y 11 10 (.faddr 1) [t 2],y 12 10 (.load 1 false) [t 11],y 13 10 (.faddr 1) [t 3],y 14 10 (.load 1 false) [t 13],y 15 10 (.bin .eql) [t 12, t 14],o 16 .pick [t 10, t 15, b false],m 17 16,y 18 17 (.faddr 2) [t 2],y 19 17 (.load 1 false) [t 18],y 20 17 (.faddr 2) [t 3],y 21 17 (.load 1 false) [t 20],y 22 17 (.bin .eql) [t 19, t 21],o 23 .pick [t 17, t 22, b false],m 24 23,y 25 24 (.faddr 3) [t 2],y 26 24 (.load 6 true) [t 25],y 27 24 (.faddr 3) [t 3],y 28 24 (.load 6 true) [t 27],y 29 24 (.call 70) [t 26, t 28],o 30 .pick [t 24, t 29, b false],m 4 30] false
@[simp]def e50_1:=rgF x50_1 rfl
def c_syntax_sameStmt_50 : EC := (seqs [x50_0,x50_1,.rt])
theorem k_50 : ecF Tryd.prog 50 = some (31, c_syntax_sameStmt_50, [.tm 4]) := by kernel_rfl

def x70_0:EC:=.rg [o 2 .box [t 0],o 3 .box [t 1],o 4 .mv [b false]] false
@[simp]def e70_0:=rgF x70_0 rfl
def x70_1:EC:=.rg [o 5 (.faddr 0) [t 2],o 6 (.load 1 false) [t 5],o 7 (.faddr 0) [t 3],o 8 (.load 1 false) [t 7],o 9 (.bin .eql) [t 6, t 8],m 10 9,y 11 10 (.faddr 1) [t 2],y 12 10 (.load 1 false) [t 11],y 13 10 (.faddr 1) [t 3],y 14 10 (.load 1 false) [t 13],y 15 10 (.bin .eql) [t 12, t 14],o 16 .pick [t 10, t 15, b false],m 17 16,y 18 17 (.faddr 2) [t 2],y 19 17 (.load 1 false) [t 18],y 20 17 (.faddr 2) [t 3],y 21 17 (.load 1 false) [t 20],y 22 17 (.bin .eql) [t 19, t 21],o 23 .pick [t 17, t 22, b false],m 24 23,y 25 24 (.faddr 3) [t 2],y 26 24 (.load 1 false) [t 25],y 27 24 (.faddr 3) [t 3],y 28 24 (.load 1 false) [t 27],y 29 24 (.bin .eql) [t 26, t 28],o 30 .pick [t 24, t 29, b false],m 31 30,y 32 31 (.faddr 4) [t 2],y 33 31 (.load 1 false) [t 32],y 34 31 (.faddr 4) [t 3],y 35 31 (.load 1 false) [t 34],y 36 31 (.bin .eql) [t 33, t 35],o 37 .pick [t 31, t 36, b false],m 38 37,y 39 38 (.faddr 5) [t 2],y 40 38 (.load 1 false) [t 39],y 41 38 (.faddr 5) [t 3],y 42 38 (.load 1 false) [t 41],y 43 38 (.call 93) [t 40, t 42, c (.fn (.func 70) [])],o 44 .pick [t 38, t 43, b false],m 4 44] false
@[simp]def e70_1:=rgF x70_1 rfl
def c_syntax_sameExpr_70 : EC := (seqs [x70_0,x70_1,.rt])
theorem k_70 : ecF Tryd.prog 70 = some (45, c_syntax_sameExpr_70, [.tm 4]) := by kernel_rfl

def x93_0:EC:=.rg [o 6 .mv [b false]] false
@[simp]def e93_0:=rgF x93_0 rfl
def x93_1:EC:=.rg [m 10 0,o 11 .lenL [t 10],m 12 1,o 13 .lenL [t 12],o 14 (.bin .neq) [t 11, t 13]] false
@[simp]def e93_1:=rgF x93_1 rfl
def x93_2:EC:=.rg [o 6 .mv [b false]] false
@[simp]def e93_2:=rgF x93_2 rfl
def x93_3:EC:=.cd (t 14) (seqs [x93_2,.rt]) .skip
@[simp]def e93_3:=cdF x93_3 rfl
def x93_4:EC:=.rg [m 15 0,o 16 .lenL [t 15],o 17 .mv [i 0]] false
@[simp]def e93_4:=rgF x93_4 rfl
def x93_5:EC:=.rg [o 18 (.bin .lss) [t 17, t 16]] false
@[simp]def e93_5:=rgF x93_5 rfl
def x93_6:EC:=.cd (t 18) .skip (.ex 0)
@[simp]def e93_6:=cdF x93_6 rfl
def x93_7:EC:=.rg [m 19 17,o 20 (.iaS 6) [t 15, t 17],o 21 (.load 6 true) [t 20],o 8 (.alloc [.t (.int .i64 0), .t (.int .i64 0), .t (.int .i64 0), .t (.int .i64 0), .t (.str []), .snil]) [],m 7 19,u (.store 6) [t 8, t 21]] false
@[simp]def e93_7:=rgF x93_7 rfl
def x93_8:EC:=.rg [m 22 1,m 23 7,o 24 (.iaS 6) [t 22, t 23],o 25 (.load 6 true) [t 24],o 9 (.alloc [.t (.int .i64 0), .t (.int .i64 0), .t (.int .i64 0), .t (.int .i64 0), .t (.str []), .snil]) [],u (.store 6) [t 9, t 25]] false
@[simp]def e93_8:=rgF x93_8 rfl
def x93_9:EC:=.rg [m 26 2,o 27 (.load 6 true) [t 8],o 28 (.load 6 true) [t 9],o 29 .callv [t 26, t 27, t 28],o 30 (.un .not) [t 29]] false
@[simp]def e93_9:=rgF x93_9 rfl
def x93_10:EC:=.rg [o 6 .mv [b false]] false
@[simp]def e93_10:=rgF x93_10 rfl
def x93_11:EC:=.cd (t 30) (seqs [x93_10,.rt]) .skip
@[simp]def e93_11:=cdF x93_11 rfl
def x93_12:EC:=.bk 1 (seqs [x93_7,x93_8,x93_9,x93_11])
@[simp]def e93_12:=bkF x93_12 rfl
def x93_13:EC:=.rg [o 31 (.bin .add) [t 17, i 1],m 17 31] false
@[simp]def e93_13:=rgF x93_13 rfl
def x93_14:EC:=.bk 0 (.lp (seqs [x93_5,x93_6,x93_12,x93_13]))
@[simp]def e93_14:=bkF x93_14 rfl
def x93_15:EC:=.rg [o 6 .mv [b true]] false
@[simp]def e93_15:=rgF x93_15 rfl
def c_syntax_Expr__93 : EC := (seqs [x93_0,(seqs [x93_1,x93_3]),(seqs [x93_4,x93_14]),x93_15,.rt])
theorem k_93 : ecF Tryd.prog 93 = some (32, c_syntax_Expr__93, [.tm 6]) := by kernel_rfl
end Go.Proofs.YtoepkeppgfbplaaDoor
