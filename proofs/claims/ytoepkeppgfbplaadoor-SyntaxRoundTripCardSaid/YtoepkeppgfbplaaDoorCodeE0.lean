/- The code of the functions of this seat, as the engine reads it; printed by program out of the translation, checked by the kernel. -/
import Derived.Test.YtoepkeppgfbplaaDoorEe
import Derived.Test.YtoepkeppgfbplaaDoorProg
set_option linter.unusedSimpArgs false
set_option linter.unusedVariables false
set_option linter.defProp false
namespace Go.Proofs.YtoepkeppgfbplaaDoor
open Go.Proofs E E.Z
variable {P : Program} {nb nt : Nat} {Q : Ex → Fr → St → Prop} {a : Fr} {S : St}
def x6_0:EC:=.rg [o 2 .mv [b false]] false
@[simp]def e6_0:=rgF x6_0 rfl
def x6_1:EC:=.rg [o 9 (.call 10) [],o 10 (.un .not) [t 9]] false
@[simp]def e6_1:=rgF x6_1 rfl
def x6_2:EC:=.rg [o 2 .mv [b false]] false
@[simp]def e6_2:=rgF x6_2 rfl
def x6_3:EC:=.cd (t 10) (seqs [x6_2,.rt]) .skip
@[simp]def e6_3:=cdF x6_3 rfl
def x6_4:EC:=.rg [m 11 0,o 12 (.call 11) [t 11],o 13 (.un .not) [t 12]] false
@[simp]def e6_4:=rgF x6_4 rfl
def x6_5:EC:=.rg [o 2 .mv [b true]] false
@[simp]def e6_5:=rgF x6_5 rfl
def x6_6:EC:=.cd (t 13) (seqs [x6_5,.rt]) .skip
@[simp]def e6_6:=cdF x6_6 rfl
def x6_7:EC:=.rg [m 14 0,o 15 (.call 13) [t 14],m 3 15] false
@[simp]def e6_7:=rgF x6_7 rfl
def x6_8:EC:=.rg [m 17 3,o 18 (.call 12) [t 17],m 16 18,o 19 (.ext 0) [t 16],o 20 (.ext 1) [t 16],m 4 19,m 5 20] false
@[simp]def e6_8:=rgF x6_8 rfl
def x6_9:EC:=.rg [m 21 5,o 22 (.bin .neq) [t 21, i 0]] false
@[simp]def e6_9:=rgF x6_9 rfl
def x6_10:EC:=.rg [m 23 4,o 24 (.bin .eql) [t 23, c (.t (.str []))],m 2 24] false
@[simp]def e6_10:=rgF x6_10 rfl
def x6_11:EC:=.cd (t 22) (seqs [x6_10,.rt]) .skip
@[simp]def e6_11:=cdF x6_11 rfl
def x6_12:EC:=.rg [m 26 4,o 27 (.call 18) [t 26],m 25 27,o 28 (.ext 0) [t 25],o 29 (.ext 1) [t 25],o 30 (.ext 2) [t 25],m 6 28,m 7 29,m 8 30] false
@[simp]def e6_12:=rgF x6_12 rfl
def x6_13:EC:=.rg [m 31 8,o 32 (.bin .eql) [t 31, i 0],m 33 32,y 34 33 .mv [t 7],y 35 33 (.bin .eql) [t 34, i 0],o 36 .pick [t 33, t 35, b false],m 37 36,y 38 37 .mv [t 6],y 39 37 .mv [t 3],y 40 37 (.call 19) [t 38, t 39],o 41 .pick [t 37, t 40, b false],m 2 41] false
@[simp]def e6_13:=rgF x6_13 rfl
def c_tallystonelaw32_SyntaxRoundTrip_6 : EC := (seqs [x6_0,(seqs [x6_1,x6_3]),(seqs [x6_4,x6_6]),x6_7,x6_8,(seqs [x6_9,x6_11]),x6_12,x6_13,.rt])
theorem k_6 : ecF Tryd.prog 6 = some (42, c_tallystonelaw32_SyntaxRoundTrip_6, [.tm 2]) := by kernel_rfl

def x11_0:EC:=.rg [o 2 .mv [b false]] false
@[simp]def e11_0:=rgF x11_0 rfl
def x11_1:EC:=.rg [o 3 .mv [i 0]] false
@[simp]def e11_1:=rgF x11_1 rfl
def x11_2:EC:=.rg [m 5 3,m 6 0,o 7 .lenL [t 6],o 8 (.bin .lss) [t 5, t 7]] false
@[simp]def e11_2:=rgF x11_2 rfl
def x11_3:EC:=.cd (t 8) .skip (.ex 0)
@[simp]def e11_3:=cdF x11_3 rfl
def x11_4:EC:=.rg [m 11 0,m 12 3,o 13 (.iaS 4) [t 11, t 12],o 14 (.faddr 0) [t 13],o 15 (.load 1 false) [t 14],o 16 .lenS [t 15],o 17 (.bin .gtr) [t 16, i 100],m 18 17,n 19 18 .mv [t 0],n 20 18 .mv [t 3],n 21 18 (.iaS 4) [t 19, t 20],n 22 18 (.faddr 2) [t 21],n 23 18 (.load 1 false) [t 22],n 24 18 .lenL [t 23],n 25 18 (.bin .gtr) [t 24, i 40],o 26 .pick [t 18, b true, t 25]] false
@[simp]def e11_4:=rgF x11_4 rfl
def x11_5:EC:=.rg [o 2 .mv [b false]] false
@[simp]def e11_5:=rgF x11_5 rfl
def x11_6:EC:=.cd (t 26) (seqs [x11_5,.rt]) .skip
@[simp]def e11_6:=cdF x11_6 rfl
def x11_7:EC:=.rg [o 4 .mv [i 0]] false
@[simp]def e11_7:=rgF x11_7 rfl
def x11_8:EC:=.rg [m 27 4,m 28 0,m 29 3,o 30 (.iaS 4) [t 28, t 29],o 31 (.faddr 2) [t 30],o 32 (.load 1 false) [t 31],o 33 .lenL [t 32],o 34 (.bin .lss) [t 27, t 33]] false
@[simp]def e11_8:=rgF x11_8 rfl
def x11_9:EC:=.cd (t 34) .skip (.ex 2)
@[simp]def e11_9:=cdF x11_9 rfl
def x11_10:EC:=.rg [m 37 0,m 38 3,o 39 (.iaS 4) [t 37, t 38],o 40 (.faddr 2) [t 39],o 41 (.load 1 false) [t 40],m 42 4,o 43 (.iaS 9) [t 41, t 42],o 44 (.faddr 2) [t 43],o 45 (.load 1 false) [t 44],o 46 .lenS [t 45],o 47 (.bin .gtr) [t 46, i 100],m 48 47,n 49 48 .mv [t 0],n 50 48 .mv [t 3],n 51 48 (.iaS 4) [t 49, t 50],n 52 48 (.faddr 2) [t 51],n 53 48 (.load 1 false) [t 52],n 54 48 .mv [t 4],n 55 48 (.iaS 9) [t 53, t 54],n 56 48 (.faddr 3) [t 55],n 57 48 (.load 6 true) [t 56],n 58 48 (.call 25) [t 57, i 201],n 59 48 (.bin .gtr) [t 58, i 200],o 60 .pick [t 48, b true, t 59]] false
@[simp]def e11_10:=rgF x11_10 rfl
def x11_11:EC:=.rg [o 2 .mv [b false]] false
@[simp]def e11_11:=rgF x11_11 rfl
def x11_12:EC:=.cd (t 60) (seqs [x11_11,.rt]) .skip
@[simp]def e11_12:=cdF x11_12 rfl
def x11_13:EC:=.bk 3 (seqs [x11_10,x11_12])
@[simp]def e11_13:=bkF x11_13 rfl
def x11_14:EC:=.rg [m 35 4,o 36 (.bin .add) [t 35, i 1],m 4 36] false
@[simp]def e11_14:=rgF x11_14 rfl
def x11_15:EC:=.bk 2 (.lp (seqs [(seqs [x11_8,x11_9]),x11_13,x11_14]))
@[simp]def e11_15:=bkF x11_15 rfl
def x11_16:EC:=.bk 1 (seqs [(seqs [x11_4,x11_6]),x11_7,x11_15])
@[simp]def e11_16:=bkF x11_16 rfl
def x11_17:EC:=.rg [m 9 3,o 10 (.bin .add) [t 9, i 1],m 3 10] false
@[simp]def e11_17:=rgF x11_17 rfl
def x11_18:EC:=.bk 0 (.lp (seqs [(seqs [x11_2,x11_3]),x11_16,x11_17]))
@[simp]def e11_18:=bkF x11_18 rfl
def x11_19:EC:=.rg [m 61 0,o 62 .lenL [t 61],o 63 (.bin .leq) [t 62, i 50],m 2 63] false
@[simp]def e11_19:=rgF x11_19 rfl
def c_tallystoneref32_Few_11 : EC := (seqs [x11_0,(seqs [x11_1,x11_18]),x11_19,.rt])
theorem k_11 : ecF Tryd.prog 11 = some (64, c_tallystoneref32_Few_11, [.tm 2]) := by kernel_rfl

def x13_0:EC:=.rg [o 2 .mv [c (.snil)]] false
@[simp]def e13_0:=rgF x13_0 rfl
def x13_1:EC:=.rg [o 3 .mv [c (.snil)]] false
@[simp]def e13_1:=rgF x13_1 rfl
def x13_2:EC:=.rg [o 4 .mv [i 0]] false
@[simp]def e13_2:=rgF x13_2 rfl
def x13_3:EC:=.rg [m 8 4,m 9 0,o 10 .lenL [t 9],o 11 (.bin .lss) [t 8, t 10]] false
@[simp]def e13_3:=rgF x13_3 rfl
def x13_4:EC:=.cd (t 11) .skip (.ex 0)
@[simp]def e13_4:=cdF x13_4 rfl
def x13_5:EC:=.rg [m 14 0,m 15 4,o 16 (.iaS 4) [t 14, t 15],o 17 (.faddr 0) [t 16],o 18 (.load 1 false) [t 17],m 19 0,m 20 4,o 21 (.iaS 4) [t 19, t 20],o 22 (.faddr 1) [t 21],o 23 (.load 1 false) [t 22],m 24 0,m 25 4,o 26 (.iaS 4) [t 24, t 25],o 27 (.faddr 3) [t 26],o 28 (.load 1 false) [t 27],o 29 (.build [.t (.str []), .t (.bool false), .snil, .t (.int .i64 0)] [(0, 1), (1, 1), (3, 1)]) [t 18, t 23, t 28],o 5 (.alloc [.t (.str []), .t (.bool false), .snil, .t (.int .i64 0)]) [],u (.store 4) [t 5, t 29]] true
@[simp]def e13_5:=rgF x13_5 rfl
def x13_6:EC:=.rg [o 6 .mv [i 0]] false
@[simp]def e13_6:=rgF x13_6 rfl
def x13_7:EC:=.rg [m 30 6,m 31 0,m 32 4,o 33 (.iaS 4) [t 31, t 32],o 34 (.faddr 2) [t 33],o 35 (.load 1 false) [t 34],o 36 .lenL [t 35],o 37 (.bin .lss) [t 30, t 36]] false
@[simp]def e13_7:=rgF x13_7 rfl
def x13_8:EC:=.cd (t 37) .skip (.ex 2)
@[simp]def e13_8:=cdF x13_8 rfl
def x13_9:EC:=.rg [m 40 0,m 41 4,o 42 (.iaS 4) [t 40, t 41],o 43 (.faddr 2) [t 42],o 44 (.load 1 false) [t 43],m 45 6,o 46 (.iaS 9) [t 44, t 45],o 47 (.load 9 true) [t 46],o 7 (.alloc [.t (.int .i64 0), .t (.int .i64 0), .t (.str []), .t (.int .i64 0), .t (.int .i64 0), .t (.int .i64 0), .t (.int .i64 0), .t (.str []), .snil]) [],u (.store 9) [t 7, t 47]] false
@[simp]def e13_9:=rgF x13_9 rfl
def x13_10:EC:=.rg [o 48 (.faddr 2) [t 5],o 49 (.load 1 false) [t 48],o 50 (.faddr 0) [t 7],o 51 (.load 1 false) [t 50],o 52 (.faddr 1) [t 7],o 53 (.load 1 false) [t 52],o 54 (.faddr 2) [t 7],o 55 (.load 1 false) [t 54],o 56 (.faddr 3) [t 7],o 57 (.load 6 true) [t 56],o 58 (.call 22) [t 57],o 59 (.build [.t (.int .i64 0), .t (.int .i64 0), .t (.str []), .t (.int .i64 0), .t (.int .i64 0), .t (.int .i64 0), .t (.int .i64 0), .t (.str []), .snil] [(0, 1), (1, 1), (2, 1), (3, 6)]) [t 51, t 53, t 55, t 58],o 60 (.bsl 9) [t 59],o 61 (.app 76 9 104) [t 49, t 60],o 62 (.faddr 2) [t 5],u (.store 1) [t 62, t 61]] true
@[simp]def e13_10:=rgF x13_10 rfl
def x13_11:EC:=.bk 3 (seqs [x13_9,x13_10])
@[simp]def e13_11:=bkF x13_11 rfl
def x13_12:EC:=.rg [m 38 6,o 39 (.bin .add) [t 38, i 1],m 6 39] false
@[simp]def e13_12:=rgF x13_12 rfl
def x13_13:EC:=.bk 2 (.lp (seqs [(seqs [x13_7,x13_8]),x13_11,x13_12]))
@[simp]def e13_13:=bkF x13_13 rfl
def x13_14:EC:=.rg [m 63 3,o 64 (.load 4 true) [t 5],o 65 (.bsl 4) [t 64],o 66 (.app 70 4 56) [t 63, t 65],m 3 66] false
@[simp]def e13_14:=rgF x13_14 rfl
def x13_15:EC:=.bk 1 (seqs [x13_5,(seqs [x13_6,x13_13]),x13_14])
@[simp]def e13_15:=bkF x13_15 rfl
def x13_16:EC:=.rg [m 12 4,o 13 (.bin .add) [t 12, i 1],m 4 13] false
@[simp]def e13_16:=rgF x13_16 rfl
def x13_17:EC:=.bk 0 (.lp (seqs [(seqs [x13_3,x13_4]),x13_15,x13_16]))
@[simp]def e13_17:=bkF x13_17 rfl
def x13_18:EC:=.rg [m 67 3,m 2 67] false
@[simp]def e13_18:=rgF x13_18 rfl
def c_tallystonelaw32_Program_13 : EC := (seqs [x13_0,x13_1,(seqs [x13_2,x13_17]),x13_18,.rt])
theorem k_13 : ecF Tryd.prog 13 = some (68, c_tallystonelaw32_Program_13, [.tm 2]) := by kernel_rfl
end Go.Proofs.YtoepkeppgfbplaaDoor
