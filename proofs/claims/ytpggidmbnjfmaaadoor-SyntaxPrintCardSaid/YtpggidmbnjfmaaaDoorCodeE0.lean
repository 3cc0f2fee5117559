/- The code of the functions of this seat, as the engine reads it; printed by program out of the translation, checked by the kernel. -/
import Derived.Test.YtpggidmbnjfmaaaDoorEe
import Derived.Test.YtpggidmbnjfmaaaDoorProg
set_option linter.unusedSimpArgs false
set_option linter.unusedVariables false
set_option linter.defProp false
namespace Go.Proofs.YtpggidmbnjfmaaaDoor
open Go.Proofs E E.Z
variable {P : Program} {nb nt : Nat} {Q : Ex → Fr → St → Prop} {a : Fr} {S : St}
def x7_0:EC:=.rg [o 2 .mv [b false]] false
@[simp]def e7_0:=rgF x7_0 rfl
def x7_1:EC:=.rg [o 3 .mv [i 0]] false
@[simp]def e7_1:=rgF x7_1 rfl
def x7_2:EC:=.rg [m 5 3,m 6 0,o 7 .lenL [t 6],o 8 (.bin .lss) [t 5, t 7]] false
@[simp]def e7_2:=rgF x7_2 rfl
def x7_3:EC:=.cd (t 8) .skip (.ex 0)
@[simp]def e7_3:=cdF x7_3 rfl
def x7_4:EC:=.rg [m 11 0,m 12 3,o 13 (.iaS 4) [t 11, t 12],o 14 (.faddr 0) [t 13],o 15 (.load 1 false) [t 14],o 16 .lenS [t 15],o 17 (.bin .gtr) [t 16, i 100],m 18 17,n 19 18 .mv [t 0],n 20 18 .mv [t 3],n 21 18 (.iaS 4) [t 19, t 20],n 22 18 (.faddr 2) [t 21],n 23 18 (.load 1 false) [t 22],n 24 18 .lenL [t 23],n 25 18 (.bin .gtr) [t 24, i 40],o 26 .pick [t 18, b true, t 25]] false
@[simp]def e7_4:=rgF x7_4 rfl
def x7_5:EC:=.rg [o 2 .mv [b false]] false
@[simp]def e7_5:=rgF x7_5 rfl
def x7_6:EC:=.cd (t 26) (seqs [x7_5,.rt]) .skip
@[simp]def e7_6:=cdF x7_6 rfl
def x7_7:EC:=.rg [o 4 .mv [i 0]] false
@[simp]def e7_7:=rgF x7_7 rfl
def x7_8:EC:=.rg [m 27 4,m 28 0,m 29 3,o 30 (.iaS 4) [t 28, t 29],o 31 (.faddr 2) [t 30],o 32 (.load 1 false) [t 31],o 33 .lenL [t 32],o 34 (.bin .lss) [t 27, t 33]] false
@[simp]def e7_8:=rgF x7_8 rfl
def x7_9:EC:=.cd (t 34) .skip (.ex 2)
@[simp]def e7_9:=cdF x7_9 rfl
def x7_10:EC:=.rg [m 37 0,m 38 3,o 39 (.iaS 4) [t 37, t 38],o 40 (.faddr 2) [t 39],o 41 (.load 1 false) [t 40],m 42 4,o 43 (.iaS 9) [t 41, t 42],o 44 (.faddr 2) [t 43],o 45 (.load 1 false) [t 44],o 46 .lenS [t 45],o 47 (.bin .gtr) [t 46, i 100],m 48 47,n 49 48 .mv [t 0],n 50 48 .mv [t 3],n 51 48 (.iaS 4) [t 49, t 50],n 52 48 (.faddr 2) [t 51],n 53 48 (.load 1 false) [t 52],n 54 48 .mv [t 4],n 55 48 (.iaS 9) [t 53, t 54],n 56 48 (.faddr 3) [t 55],n 57 48 (.load 6 true) [t 56],n 58 48 (.call 20) [t 57, i 201],n 59 48 (.bin .gtr) [t 58, i 200],o 60 .pick [t 48, b true, t 59]] false
@[simp]def e7_10:=rgF x7_10 rfl
def x7_11:EC:=.rg [o 2 .mv [b false]] false
@[simp]def e7_11:=rgF x7_11 rfl
def x7_12:EC:=.cd (t 60) (seqs [x7_11,.rt]) .skip
@[simp]def e7_12:=cdF x7_12 rfl
def x7_13:EC:=.bk 3 (seqs [x7_10,x7_12])
@[simp]def e7_13:=bkF x7_13 rfl
def x7_14:EC:=.rg [m 35 4,o 36 (.bin .add) [t 35, i 1],m 4 36] false
@[simp]def e7_14:=rgF x7_14 rfl
def x7_15:EC:=.bk 2 (.lp (seqs [(seqs [x7_8,x7_9]),x7_13,x7_14]))
@[simp]def e7_15:=bkF x7_15 rfl
def x7_16:EC:=.bk 1 (seqs [(seqs [x7_4,x7_6]),x7_7,x7_15])
@[simp]def e7_16:=bkF x7_16 rfl
def x7_17:EC:=.rg [m 9 3,o 10 (.bin .add) [t 9, i 1],m 3 10] false
@[simp]def e7_17:=rgF x7_17 rfl
def x7_18:EC:=.bk 0 (.lp (seqs [(seqs [x7_2,x7_3]),x7_16,x7_17]))
@[simp]def e7_18:=bkF x7_18 rfl
def x7_19:EC:=.rg [m 61 0,o 62 .lenL [t 61],o 63 (.bin .leq) [t 62, i 50],m 2 63] false
@[simp]def e7_19:=rgF x7_19 rfl
def c_tallystoneref32_Few_7 : EC := (seqs [x7_0,(seqs [x7_1,x7_18]),x7_19,.rt])
theorem k_7 : ecF Tryd.prog 7 = some (64, c_tallystoneref32_Few_7, [.tm 2]) := by kernel_rfl

def x9_0:EC:=.rg [o 2 .mv [c (.snil)]] false
@[simp]def e9_0:=rgF x9_0 rfl
def x9_1:EC:=.rg [o 3 .mv [c (.snil)]] false
@[simp]def e9_1:=rgF x9_1 rfl
def x9_2:EC:=.rg [o 4 .mv [i 0]] false
@[simp]def e9_2:=rgF x9_2 rfl
def x9_3:EC:=.rg [m 8 4,m 9 0,o 10 .lenL [t 9],o 11 (.bin .lss) [t 8, t 10]] false
@[simp]def e9_3:=rgF x9_3 rfl
def x9_4:EC:=.cd (t 11) .skip (.ex 0)
@[simp]def e9_4:=cdF x9_4 rfl
def x9_5:EC:=.rg [m 14 0,m 15 4,o 16 (.iaS 4) [t 14, t 15],o 17 (.faddr 0) [t 16],o 18 (.load 1 false) [t 17],m 19 0,m 20 4,o 21 (.iaS 4) [t 19, t 20],o 22 (.faddr 1) [t 21],o 23 (.load 1 false) [t 22],m 24 0,m 25 4,o 26 (.iaS 4) [t 24, t 25],o 27 (.faddr 3) [t 26],o 28 (.load 1 false) [t 27],o 29 (.build [.t (.str []), .t (.bool false), .snil, .t (.int .i64 0)] [(0, 1), (1, 1), (3, 1)]) [t 18, t 23, t 28],o 5 (.alloc [.t (.str []), .t (.bool false), .snil, .t (.int .i64 0)]) [],u (.store 4) [t 5, t 29]] true
@[simp]def e9_5:=rgF x9_5 rfl
def x9_6:EC:=.rg [o 6 .mv [i 0]] false
@[simp]def e9_6:=rgF x9_6 rfl
def x9_7:EC:=.rg [m 30 6,m 31 0,m 32 4,o 33 (.iaS 4) [t 31, t 32],o 34 (.faddr 2) [t 33],o 35 (.load 1 false) [t 34],o 36 .lenL [t 35],o 37 (.bin .lss) [t 30, t 36]] false
@[simp]def e9_7:=rgF x9_7 rfl
def x9_8:EC:=.cd (t 37) .skip (.ex 2)
@[simp]def e9_8:=cdF x9_8 rfl
def x9_9:EC:=.rg [m 40 0,m 41 4,o 42 (.iaS 4) [t 40, t 41],o 43 (.faddr 2) [t 42],o 44 (.load 1 false) [t 43],m 45 6,o 46 (.iaS 9) [t 44, t 45],o 47 (.load 9 true) [t 46],o 7 (.alloc [.t (.int .i64 0), .t (.int .i64 0), .t (.str []), .t (.int .i64 0), .t (.int .i64 0), .t (.int .i64 0), .t (.int .i64 0), .t (.str []), .snil]) [],u (.store 9) [t 7, t 47]] false
@[simp]def e9_9:=rgF x9_9 rfl
def x9_10:EC:=.rg [o 48 (.faddr 2) [t 5],o 49 (.load 1 false) [t 48],o 50 (.faddr 0) [t 7],o 51 (.load 1 false) [t 50],o 52 (.faddr 1) [t 7],o 53 (.load 1 false) [t 52],o 54 (.faddr 2) [t 7],o 55 (.load 1 false) [t 54],o 56 (.faddr 3) [t 7],o 57 (.load 6 true) [t 56],o 58 (.call 16) [t 57],o 59 (.build [.t (.int .i64 0), .t (.int .i64 0), .t (.str []), .t (.int .i64 0), .t (.int .i64 0), .t (.int .i64 0), .t (.int .i64 0), .t (.str []), .snil] [(0, 1), (1, 1), (2, 1), (3, 6)]) [t 51, t 53, t 55, t 58],o 60 (.bsl 9) [t 59],o 61 (.app 69 9 104) [t 49, t 60],o 62 (.faddr 2) [t 5],u (.store 1) [t 62, t 61]] true
@[simp]def e9_10:=rgF x9_10 rfl
def x9_11:EC:=.bk 3 (seqs [x9_9,x9_10])
@[simp]def e9_11:=bkF x9_11 rfl
def x9_12:EC:=.rg [m 38 6,o 39 (.bin .add) [t 38, i 1],m 6 39] false
@[simp]def e9_12:=rgF x9_12 rfl
def x9_13:EC:=.bk 2 (.lp (seqs [(seqs [x9_7,x9_8]),x9_11,x9_12]))
@[simp]def e9_13:=bkF x9_13 rfl
def x9_14:EC:=.rg [m 63 3,o 64 (.load 4 true) [t 5],o 65 (.bsl 4) [t 64],o 66 (.app 63 4 56) [t 63, t 65],m 3 66] false
@[simp]def e9_14:=rgF x9_14 rfl
def x9_15:EC:=.bk 1 (seqs [x9_5,(seqs [x9_6,x9_13]),x9_14])
@[simp]def e9_15:=bkF x9_15 rfl
def x9_16:EC:=.rg [m 12 4,o 13 (.bin .add) [t 12, i 1],m 4 13] false
@[simp]def e9_16:=rgF x9_16 rfl
def x9_17:EC:=.bk 0 (.lp (seqs [(seqs [x9_3,x9_4]),x9_15,x9_16]))
@[simp]def e9_17:=bkF x9_17 rfl
def x9_18:EC:=.rg [m 67 3,m 2 67] false
@[simp]def e9_18:=rgF x9_18 rfl
def c_tallystonelaw32_Program_9 : EC := (seqs [x9_0,x9_1,(seqs [x9_2,x9_17]),x9_18,.rt])
theorem k_9 : ecF Tryd.prog 9 = some (68, c_tallystonelaw32_Program_9, [.tm 2]) := by kernel_rfl
end Go.Proofs.YtpggidmbnjfmaaaDoor
