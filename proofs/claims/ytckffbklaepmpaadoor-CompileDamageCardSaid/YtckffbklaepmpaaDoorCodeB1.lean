/- The code of the functions of this seat, as the engine reads it; printed by program out of the translation, checked by the kernel. -/
import Derived.Test.YtckffbklaepmpaaDoorEe
import Derived.Test.YtckffbklaepmpaaDoorProg
set_option linter.unusedSimpArgs false
set_option linter.unusedVariables false
set_option linter.defProp false
namespace Go.Proofs.YtckffbklaepmpaaDoor
open Go.Proofs E E.Z
variable {P : Program} {nb nt : Nat} {Q : Ex → Fr → St → Prop} {a : Fr} {S : St}
/-- (tallystone/check.checker).expr -/
def x60_0:EC:=.rg [o 2 .box [t 0],o 3 .box [t 1],o 4 .mv [i 0]] false
@[simp]def e60_0:=rgF x60_0 rfl
def x60_1:EC:=.rg [o 5 (.faddr 0) [t 3],o 6 (.load 1 false) [t 5]] false
@[simp]def e60_1:=rgF x60_1 rfl
def x60_2:EC:=.rg [o 8 (.bin .eql) [t 6, i 1],m 7 8] false
@[simp]def e60_2:=rgF x60_2 rfl
def x60_3:EC:=.rg [o 4 .mv [i 1]] false
@[simp]def e60_3:=rgF x60_3 rfl
def x60_4:EC:=.rg [o 10 (.bin .eql) [t 6, i 2],m 9 10] false
@[simp]def e60_4:=rgF x60_4 rfl
def x60_5:EC:=.rg [o 11 (.faddr 0) [t 2],o 12 (.load 1 false) [t 11],o 13 (.faddr 4) [t 3],o 14 (.load 1 false) [t 13],o 15 (.lkp false [2] false false [.t (.bool false)]) [t 12, t 14],o 16 (.un .not) [t 15]] false
@[simp]def e60_5:=rgF x60_5 rfl
def x60_6:EC:=.rg [o 17 (.mki 135) [i 17],u .pan [t 17]] false
@[simp]def e60_6:=rgF x60_6 rfl
def x60_7:EC:=.cd (t 16) x60_6 .skip
@[simp]def e60_7:=cdF x60_7 rfl
def x60_8:EC:=.rg [o 4 .mv [i 1]] false
@[simp]def e60_8:=rgF x60_8 rfl
def x60_9:EC:=.rg [o 19 (.bin .eql) [t 6, i 21],m 18 19] false
@[simp]def e60_9:=rgF x60_9 rfl
def x60_10:EC:=.rg [o 20 (.bin .eql) [t 6, i 22],m 18 20] false
@[simp]def e60_10:=rgF x60_10 rfl
def x60_11:EC:=.cd (t 18) .skip x60_10
@[simp]def e60_11:=cdF x60_11 rfl
def x60_12:EC:=.rg [o 21 (.faddr 2) [t 3],o 22 (.load 1 false) [t 21],o 23 (.faddr 3) [t 3],o 24 (.load 1 false) [t 23],o 25 (.bin .gtr) [t 22, t 24]] false
@[simp]def e60_12:=rgF x60_12 rfl
def x60_13:EC:=.rg [o 26 (.mki 135) [i 2],u .pan [t 26]] false
@[simp]def e60_13:=rgF x60_13 rfl
def x60_14:EC:=.cd (t 25) x60_13 .skip
@[simp]def e60_14:=cdF x60_14 rfl
def x60_15:EC:=.rg [o 27 (.faddr 0) [t 3],o 28 (.load 1 false) [t 27],o 29 (.bin .eql) [t 28, i 22],m 30 29,y 31 30 (.faddr 1) [t 2],y 32 30 (.load 1 false) [t 31],y 33 30 (.un .not) [t 32],o 34 .pick [t 30, t 33, b false]] false
@[simp]def e60_15:=rgF x60_15 rfl
def x60_16:EC:=.rg [o 35 (.mki 135) [i 7],u .pan [t 35]] false
@[simp]def e60_16:=rgF x60_16 rfl
def x60_17:EC:=.cd (t 34) x60_16 .skip
@[simp]def e60_17:=cdF x60_17 rfl
def x60_18:EC:=.rg [o 4 .mv [i 1]] false
@[simp]def e60_18:=rgF x60_18 rfl
def x60_19:EC:=.rg [o 37 (.bin .eql) [t 6, i 6],m 36 37] false
@[simp]def e60_19:=rgF x60_19 rfl
def x60_20:EC:=.rg [o 38 (.bin .eql) [t 6, i 12],m 36 38] false
@[simp]def e60_20:=rgF x60_20 rfl
def x60_21:EC:=.rg [o 39 (.bin .eql) [t 6, i 13],m 36 39] false
@[simp]def e60_21:=rgF x60_21 rfl
def x60_22:EC:=.cd (t 36) .skip x60_21
@[simp]def e60_22:=cdF x60_22 rfl
def x60_23:EC:=.cd (t 36) .skip (seqs [x60_20,x60_22])
@[simp]def e60_23:=cdF x60_23 rfl
def x60_24:EC:=.rg [o 40 (.load 2 true) [t 2],o 41 (.load 6 true) [t 3],o 42 (.call 71) [t 40, t 41, i 2]] false
@[simp]def e60_24:=rgF x60_24 rfl
def x60_25:EC:=.rg [o 4 .mv [i 2]] false
@[simp]def e60_25:=rgF x60_25 rfl
def x60_26:EC:=.rg [o 44 (.bin .eql) [t 6, i 14],m 43 44] false
@[simp]def e60_26:=rgF x60_26 rfl
def x60_27:EC:=.rg [o 45 (.bin .eql) [t 6, i 15],m 43 45] false
@[simp]def e60_27:=rgF x60_27 rfl
def x60_28:EC:=.rg [o 46 (.bin .eql) [t 6, i 16],m 43 46] false
@[simp]def e60_28:=rgF x60_28 rfl
def x60_29:EC:=.rg [o 47 (.bin .eql) [t 6, i 17],m 43 47] false
@[simp]def e60_29:=rgF x60_29 rfl
def x60_30:EC:=.rg [o 48 (.bin .eql) [t 6, i 18],m 43 48] false
@[simp]def e60_30:=rgF x60_30 rfl
def x60_31:EC:=.rg [o 49 (.bin .eql) [t 6, i 19],m 43 49] false
@[simp]def e60_31:=rgF x60_31 rfl
def x60_32:EC:=.cd (t 43) .skip x60_31
@[simp]def e60_32:=cdF x60_32 rfl
def x60_33:EC:=.cd (t 43) .skip (seqs [x60_30,x60_32])
@[simp]def e60_33:=cdF x60_33 rfl
def x60_34:EC:=.cd (t 43) .skip (seqs [x60_29,x60_33])
@[simp]def e60_34:=cdF x60_34 rfl
def x60_35:EC:=.cd (t 43) .skip (seqs [x60_28,x60_34])
@[simp]def e60_35:=cdF x60_35 rfl
def x60_36:EC:=.cd (t 43) .skip (seqs [x60_27,x60_35])
@[simp]def e60_36:=cdF x60_36 rfl
def x60_37:EC:=.rg [o 50 (.load 2 true) [t 2],o 51 (.load 6 true) [t 3],o 52 (.call 71) [t 50, t 51, i 1]] false
@[simp]def e60_37:=rgF x60_37 rfl
def x60_38:EC:=.rg [o 4 .mv [i 2]] false
@[simp]def e60_38:=rgF x60_38 rfl
def x60_39:EC:=.cd (t 43) (seqs [x60_37,x60_38,.rt]) .skip
@[simp]def e60_39:=cdF x60_39 rfl
def x60_40:EC:=.cd (t 36) (seqs [x60_24,x60_25,.rt]) (seqs [(seqs [x60_26,x60_36]),x60_39])
@[simp]def e60_40:=cdF x60_40 rfl
def x60_41:EC:=.cd (t 18) (seqs [(seqs [x60_12,x60_14]),(seqs [x60_15,x60_17]),x60_18,.rt]) (seqs [(seqs [x60_19,x60_23]),x60_40])
@[simp]def e60_41:=cdF x60_41 rfl
def x60_42:EC:=.cd (t 9) (seqs [(seqs [x60_5,x60_7]),x60_8,.rt]) (seqs [(seqs [x60_9,x60_11]),x60_41])
@[simp]def e60_42:=cdF x60_42 rfl
def x60_43:EC:=.cd (t 7) (seqs [x60_3,.rt]) (seqs [x60_4,x60_42])
@[simp]def e60_43:=cdF x60_43 rfl
def x60_44:EC:=.bk 0 (seqs [x60_2,x60_43])
@[simp]def e60_44:=bkF x60_44 rfl
def x60_45:EC:=.rg [o 53 (.load 2 true) [t 2],o 54 (.load 6 true) [t 3],o 55 (.call 71) [t 53, t 54, i 1]] false
@[simp]def e60_45:=rgF x60_45 rfl
def x60_46:EC:=.rg [o 4 .mv [i 1]] false
@[simp]def e60_46:=rgF x60_46 rfl
def c_check_checker__expr_60 : EC := (seqs [x60_0,(seqs [x60_1,x60_44]),x60_45,x60_46,.rt])
theorem k_60 : ecF Tryd.prog 60 = some (56, c_check_checker__expr_60, [.tm 4]) := by kernel_rfl

/-- internal/strconv.small -/
def x61_0:EC:=.rg [o 2 .mv [c (.t (.str []))]] false
@[simp]def e61_0:=rgF x61_0 rfl
def x61_1:EC:=.rg [m 3 0,o 4 (.bin .lss) [t 3, i 10]] false
@[simp]def e61_1:=rgF x61_1 rfl
def x61_2:EC:=.rg [m 5 0,m 6 0,o 7 (.bin .add) [t 6, i 1],o 8 (.slS true true) [c (.t (.str [48, 49, 50, 51, 52, 53, 54, 55, 56, 57, 97, 98, 99, 100, 101, 102, 103, 104, 105, 106, 107, 108, 109, 110, 111, 112, 113, 114, 115, 116, 117, 118, 119, 120, 121, 122])), t 5, t 7],m 2 8] false
@[simp]def e61_2:=rgF x61_2 rfl
def x61_3:EC:=.cd (t 4) (seqs [x61_2,.rt]) .skip
@[simp]def e61_3:=cdF x61_3 rfl
def x61_4:EC:=.rg [m 9 0,o 10 (.bin .mul) [t 9, i 2],m 11 0,o 12 (.bin .mul) [t 11, i 2],o 13 (.bin .add) [t 12, i 2],o 14 (.slS true true) [c (.t (.str [48, 48, 48, 49, 48, 50, 48, 51, 48, 52, 48, 53, 48, 54, 48, 55, 48, 56, 48, 57, 49, 48, 49, 49, 49, 50, 49, 51, 49, 52, 49, 53, 49, 54, 49, 55, 49, 56, 49, 57, 50, 48, 50, 49, 50, 50, 50, 51, 50, 52, 50, 53, 50, 54, 50, 55, 50, 56, 50, 57, 51, 48, 51, 49, 51, 50, 51, 51, 51, 52, 51, 53, 51, 54, 51, 55, 51, 56, 51, 57, 52, 48, 52, 49, 52, 50, 52, 51, 52, 52, 52, 53, 52, 54, 52, 55, 52, 56, 52, 57, 53, 48, 53, 49, 53, 50, 53, 51, 53, 52, 53, 53, 53, 54, 53, 55, 53, 56, 53, 57, 54, 48, 54, 49, 54, 50, 54, 51, 54, 52, 54, 53, 54, 54, 54, 55, 54, 56, 54, 57, 55, 48, 55, 49, 55, 50, 55, 51, 55, 52, 55, 53, 55, 54, 55, 55, 55, 56, 55, 57, 56, 48, 56, 49, 56, 50, 56, 51, 56, 52, 56, 53, 56, 54, 56, 55, 56, 56, 56, 57, 57, 48, 57, 49, 57, 50, 57, 51, 57, 52, 57, 53, 57, 54, 57, 55, 57, 56, 57, 57])), t 10, t 13],m 2 14] false
@[simp]def e61_4:=rgF x61_4 rfl
def c_strconv_small_61 : EC := (seqs [x61_0,(seqs [x61_1,x61_3]),x61_4,.rt])
theorem k_61 : ecF Tryd.prog 61 = some (15, c_strconv_small_61, [.tm 2]) := by kernel_rfl

/-- internal/strconv.numDigits -/
def x62_0:EC:=.rg [o 2 .mv [i 0]] false
@[simp]def e62_0:=rgF x62_0 rfl
def x62_1:EC:=.rg [m 4 0,o 5 (.call 73) [t 4],o 6 (.call 72) [t 5],m 3 6] false
@[simp]def e62_1:=rgF x62_1 rfl
def x62_2:EC:=.rg [m 7 3,m 8 0,m 9 3,o 10 (.iaA 20 1) [c (laidTp 0), t 9],o 11 (.load 1 false) [t 10],o 12 (.bin .geq) [t 8, t 11],o 13 (.call 74) [t 12],o 14 (.bin .add) [t 7, t 13],m 2 14] false
@[simp]def e62_2:=rgF x62_2 rfl
def c_strconv_numDigits_62 : EC := (seqs [x62_0,x62_1,x62_2,.rt])
theorem k_62 : ecF Tryd.prog 62 = some (15, c_strconv_numDigits_62, [.tm 2]) := by kernel_rfl

/-- internal/strconv.formatBase10 -/
def x63_0:EC:=.rg [m 17 0,o 18 .lenL [t 17],m 4 18] false
@[simp]def e63_0:=rgF x63_0 rfl
def x63_1:EC:=.rg [m 19 4,o 20 (.bin .geq) [t 19, i 8]] false
@[simp]def e63_1:=rgF x63_1 rfl
def x63_2:EC:=.cd (t 20) .skip (.ex 0)
@[simp]def e63_2:=cdF x63_2 rfl
def x63_3:EC:=.rg [m 21 1,o 22 (.bin .rem) [t 21, c (.t (.int .u64 100000000))],o 23 (.cvI .u32) [t 22],m 5 23] false
@[simp]def e63_3:=rgF x63_3 rfl
def x63_4:EC:=.rg [m 24 1,o 25 (.bin .quo) [t 24, c (.t (.int .u64 100000000))],m 1 25] false
@[simp]def e63_4:=rgF x63_4 rfl
def x63_5:EC:=.rg [m 26 5,o 27 (.bin .quo) [t 26, c (.t (.int .u32 10000))],m 28 5,o 29 (.bin .rem) [t 28, c (.t (.int .u32 10000))],m 6 27,m 7 29] false
@[simp]def e63_5:=rgF x63_5 rfl
def x63_6:EC:=.rg [m 30 7,o 31 (.bin .quo) [t 30, c (.t (.int .u32 100))],o 32 (.bin .mul) [t 31, c (.t (.int .u32 2))],m 33 7,o 34 (.bin .rem) [t 33, c (.t (.int .u32 100))],o 35 (.bin .mul) [t 34, c (.t (.int .u32 2))],m 8 32,m 9 35] false
@[simp]def e63_6:=rgF x63_6 rfl
def x63_7:EC:=.rg [m 36 6,o 37 (.bin .quo) [t 36, c (.t (.int .u32 100))],o 38 (.bin .mul) [t 37, c (.t (.int .u32 2))],m 39 6,o 40 (.bin .rem) [t 39, c (.t (.int .u32 100))],o 41 (.bin .mul) [t 40, c (.t (.int .u32 2))],m 10 38,m 11 41] false
@[simp]def e63_7:=rgF x63_7 rfl
def x63_8:EC:=.rg [m 42 0,m 43 4,o 44 (.bin .sub) [t 43, i 1],m 45 0,m 46 4,o 47 (.bin .sub) [t 46, i 2],m 48 9,o 49 (.bin .add) [t 48, c (.t (.int .u32 1))],o 50 .ixS [c (.t (.str [48, 48, 48, 49, 48, 50, 48, 51, 48, 52, 48, 53, 48, 54, 48, 55, 48, 56, 48, 57, 49, 48, 49, 49, 49, 50, 49, 51, 49, 52, 49, 53, 49, 54, 49, 55, 49, 56, 49, 57, 50, 48, 50, 49, 50, 50, 50, 51, 50, 52, 50, 53, 50, 54, 50, 55, 50, 56, 50, 57, 51, 48, 51, 49, 51, 50, 51, 51, 51, 52, 51, 53, 51, 54, 51, 55, 51, 56, 51, 57, 52, 48, 52, 49, 52, 50, 52, 51, 52, 52, 52, 53, 52, 54, 52, 55, 52, 56, 52, 57, 53, 48, 53, 49, 53, 50, 53, 51, 53, 52, 53, 53, 53, 54, 53, 55, 53, 56, 53, 57, 54, 48, 54, 49, 54, 50, 54, 51, 54, 52, 54, 53, 54, 54, 54, 55, 54, 56, 54, 57, 55, 48, 55, 49, 55, 50, 55, 51, 55, 52, 55, 53, 55, 54, 55, 55, 55, 56, 55, 57, 56, 48, 56, 49, 56, 50, 56, 51, 56, 52, 56, 53, 56, 54, 56, 55, 56, 56, 56, 57, 57, 48, 57, 49, 57, 50, 57, 51, 57, 52, 57, 53, 57, 54, 57, 55, 57, 56, 57, 57])), t 49],m 51 9,o 52 .ixS [c (.t (.str [48, 48, 48, 49, 48, 50, 48, 51, 48, 52, 48, 53, 48, 54, 48, 55, 48, 56, 48, 57, 49, 48, 49, 49, 49, 50, 49, 51, 49, 52, 49, 53, 49, 54, 49, 55, 49, 56, 49, 57, 50, 48, 50, 49, 50, 50, 50, 51, 50, 52, 50, 53, 50, 54, 50, 55, 50, 56, 50, 57, 51, 48, 51, 49, 51, 50, 51, 51, 51, 52, 51, 53, 51, 54, 51, 55, 51, 56, 51, 57, 52, 48, 52, 49, 52, 50, 52, 51, 52, 52, 52, 53, 52, 54, 52, 55, 52, 56, 52, 57, 53, 48, 53, 49, 53, 50, 53, 51, 53, 52, 53, 53, 53, 54, 53, 55, 53, 56, 53, 57, 54, 48, 54, 49, 54, 50, 54, 51, 54, 52, 54, 53, 54, 54, 54, 55, 54, 56, 54, 57, 55, 48, 55, 49, 55, 50, 55, 51, 55, 52, 55, 53, 55, 54, 55, 55, 55, 56, 55, 57, 56, 48, 56, 49, 56, 50, 56, 51, 56, 52, 56, 53, 56, 54, 56, 55, 56, 56, 56, 57, 57, 48, 57, 49, 57, 50, 57, 51, 57, 52, 57, 53, 57, 54, 57, 55, 57, 56, 57, 57])), t 51],o 53 (.iaS 1) [t 42, t 44],u (.store 1) [t 53, t 50],o 54 (.iaS 1) [t 45, t 47],u (.store 1) [t 54, t 52]] true
@[simp]def e63_8:=rgF x63_8 rfl
def x63_9:EC:=.rg [m 55 0,m 56 4,o 57 (.bin .sub) [t 56, i 3],m 58 0,m 59 4,o 60 (.bin .sub) [t 59, i 4],m 61 8,o 62 (.bin .add) [t 61, c (.t (.int .u32 1))],o 63 .ixS [c (.t (.str [48, 48, 48, 49, 48, 50, 48, 51, 48, 52, 48, 53, 48, 54, 48, 55, 48, 56, 48, 57, 49, 48, 49, 49, 49, 50, 49, 51, 49, 52, 49, 53, 49, 54, 49, 55, 49, 56, 49, 57, 50, 48, 50, 49, 50, 50, 50, 51, 50, 52, 50, 53, 50, 54, 50, 55, 50, 56, 50, 57, 51, 48, 51, 49, 51, 50, 51, 51, 51, 52, 51, 53, 51, 54, 51, 55, 51, 56, 51, 57, 52, 48, 52, 49, 52, 50, 52, 51, 52, 52, 52, 53, 52, 54, 52, 55, 52, 56, 52, 57, 53, 48, 53, 49, 53, 50, 53, 51, 53, 52, 53, 53, 53, 54, 53, 55, 53, 56, 53, 57, 54, 48, 54, 49, 54, 50, 54, 51, 54, 52, 54, 53, 54, 54, 54, 55, 54, 56, 54, 57, 55, 48, 55, 49, 55, 50, 55, 51, 55, 52, 55, 53, 55, 54, 55, 55, 55, 56, 55, 57, 56, 48, 56, 49, 56, 50, 56, 51, 56, 52, 56, 53, 56, 54, 56, 55, 56, 56, 56, 57, 57, 48, 57, 49, 57, 50, 57, 51, 57, 52, 57, 53, 57, 54, 57, 55, 57, 56, 57, 57])), t 62],m 64 8,o 65 .ixS [c (.t (.str [48, 48, 48, 49, 48, 50, 48, 51, 48, 52, 48, 53, 48, 54, 48, 55, 48, 56, 48, 57, 49, 48, 49, 49, 49, 50, 49, 51, 49, 52, 49, 53, 49, 54, 49, 55, 49, 56, 49, 57, 50, 48, 50, 49, 50, 50, 50, 51, 50, 52, 50, 53, 50, 54, 50, 55, 50, 56, 50, 57, 51, 48, 51, 49, 51, 50, 51, 51, 51, 52, 51, 53, 51, 54, 51, 55, 51, 56, 51, 57, 52, 48, 52, 49, 52, 50, 52, 51, 52, 52, 52, 53, 52, 54, 52, 55, 52, 56, 52, 57, 53, 48, 53, 49, 53, 50, 53, 51, 53, 52, 53, 53, 53, 54, 53, 55, 53, 56, 53, 57, 54, 48, 54, 49, 54, 50, 54, 51, 54, 52, 54, 53, 54, 54, 54, 55, 54, 56, 54, 57, 55, 48, 55, 49, 55, 50, 55, 51, 55, 52, 55, 53, 55, 54, 55, 55, 55, 56, 55, 57, 56, 48, 56, 49, 56, 50, 56, 51, 56, 52, 56, 53, 56, 54, 56, 55, 56, 56, 56, 57, 57, 48, 57, 49, 57, 50, 57, 51, 57, 52, 57, 53, 57, 54, 57, 55, 57, 56, 57, 57])), t 64],o 66 (.iaS 1) [t 55, t 57],u (.store 1) [t 66, t 63],o 67 (.iaS 1) [t 58, t 60],u (.store 1) [t 67, t 65]] true
@[simp]def e63_9:=rgF x63_9 rfl
def x63_10:EC:=.rg [m 68 0,m 69 4,o 70 (.bin .sub) [t 69, i 5],m 71 0,m 72 4,o 73 (.bin .sub) [t 72, i 6],m 74 11,o 75 (.bin .add) [t 74, c (.t (.int .u32 1))],o 76 .ixS [c (.t (.str [48, 48, 48, 49, 48, 50, 48, 51, 48, 52, 48, 53, 48, 54, 48, 55, 48, 56, 48, 57, 49, 48, 49, 49, 49, 50, 49, 51, 49, 52, 49, 53, 49, 54, 49, 55, 49, 56, 49, 57, 50, 48, 50, 49, 50, 50, 50, 51, 50, 52, 50, 53, 50, 54, 50, 55, 50, 56, 50, 57, 51, 48, 51, 49, 51, 50, 51, 51, 51, 52, 51, 53, 51, 54, 51, 55, 51, 56, 51, 57, 52, 48, 52, 49, 52, 50, 52, 51, 52, 52, 52, 53, 52, 54, 52, 55, 52, 56, 52, 57, 53, 48, 53, 49, 53, 50, 53, 51, 53, 52, 53, 53, 53, 54, 53, 55, 53, 56, 53, 57, 54, 48, 54, 49, 54, 50, 54, 51, 54, 52, 54, 53, 54, 54, 54, 55, 54, 56, 54, 57, 55, 48, 55, 49, 55, 50, 55, 51, 55, 52, 55, 53, 55, 54, 55, 55, 55, 56, 55, 57, 56, 48, 56, 49, 56, 50, 56, 51, 56, 52, 56, 53, 56, 54, 56, 55, 56, 56, 56, 57, 57, 48, 57, 49, 57, 50, 57, 51, 57, 52, 57, 53, 57, 54, 57, 55, 57, 56, 57, 57])), t 75],m 77 11,o 78 .ixS [c (.t (.str [48, 48, 48, 49, 48, 50, 48, 51, 48, 52, 48, 53, 48, 54, 48, 55, 48, 56, 48, 57, 49, 48, 49, 49, 49, 50, 49, 51, 49, 52, 49, 53, 49, 54, 49, 55, 49, 56, 49, 57, 50, 48, 50, 49, 50, 50, 50, 51, 50, 52, 50, 53, 50, 54, 50, 55, 50, 56, 50, 57, 51, 48, 51, 49, 51, 50, 51, 51, 51, 52, 51, 53, 51, 54, 51, 55, 51, 56, 51, 57, 52, 48, 52, 49, 52, 50, 52, 51, 52, 52, 52, 53, 52, 54, 52, 55, 52, 56, 52, 57, 53, 48, 53, 49, 53, 50, 53, 51, 53, 52, 53, 53, 53, 54, 53, 55, 53, 56, 53, 57, 54, 48, 54, 49, 54, 50, 54, 51, 54, 52, 54, 53, 54, 54, 54, 55, 54, 56, 54, 57, 55, 48, 55, 49, 55, 50, 55, 51, 55, 52, 55, 53, 55, 54, 55, 55, 55, 56, 55, 57, 56, 48, 56, 49, 56, 50, 56, 51, 56, 52, 56, 53, 56, 54, 56, 55, 56, 56, 56, 57, 57, 48, 57, 49, 57, 50, 57, 51, 57, 52, 57, 53, 57, 54, 57, 55, 57, 56, 57, 57])), t 77],o 79 (.iaS 1) [t 68, t 70],u (.store 1) [t 79, t 76],o 80 (.iaS 1) [t 71, t 73],u (.store 1) [t 80, t 78]] true
@[simp]def e63_10:=rgF x63_10 rfl
def x63_11:EC:=.rg [m 81 0,m 82 4,o 83 (.bin .sub) [t 82, i 7],m 84 0,m 85 4,o 86 (.bin .sub) [t 85, i 8],m 87 10,o 88 (.bin .add) [t 87, c (.t (.int .u32 1))],o 89 .ixS [c (.t (.str [48, 48, 48, 49, 48, 50, 48, 51, 48, 52, 48, 53, 48, 54, 48, 55, 48, 56, 48, 57, 49, 48, 49, 49, 49, 50, 49, 51, 49, 52, 49, 53, 49, 54, 49, 55, 49, 56, 49, 57, 50, 48, 50, 49, 50, 50, 50, 51, 50, 52, 50, 53, 50, 54, 50, 55, 50, 56, 50, 57, 51, 48, 51, 49, 51, 50, 51, 51, 51, 52, 51, 53, 51, 54, 51, 55, 51, 56, 51, 57, 52, 48, 52, 49, 52, 50, 52, 51, 52, 52, 52, 53, 52, 54, 52, 55, 52, 56, 52, 57, 53, 48, 53, 49, 53, 50, 53, 51, 53, 52, 53, 53, 53, 54, 53, 55, 53, 56, 53, 57, 54, 48, 54, 49, 54, 50, 54, 51, 54, 52, 54, 53, 54, 54, 54, 55, 54, 56, 54, 57, 55, 48, 55, 49, 55, 50, 55, 51, 55, 52, 55, 53, 55, 54, 55, 55, 55, 56, 55, 57, 56, 48, 56, 49, 56, 50, 56, 51, 56, 52, 56, 53, 56, 54, 56, 55, 56, 56, 56, 57, 57, 48, 57, 49, 57, 50, 57, 51, 57, 52, 57, 53, 57, 54, 57, 55, 57, 56, 57, 57])), t 88],m 90 10,o 91 .ixS [c (.t (.str [48, 48, 48, 49, 48, 50, 48, 51, 48, 52, 48, 53, 48, 54, 48, 55, 48, 56, 48, 57, 49, 48, 49, 49, 49, 50, 49, 51, 49, 52, 49, 53, 49, 54, 49, 55, 49, 56, 49, 57, 50, 48, 50, 49, 50, 50, 50, 51, 50, 52, 50, 53, 50, 54, 50, 55, 50, 56, 50, 57, 51, 48, 51, 49, 51, 50, 51, 51, 51, 52, 51, 53, 51, 54, 51, 55, 51, 56, 51, 57, 52, 48, 52, 49, 52, 50, 52, 51, 52, 52, 52, 53, 52, 54, 52, 55, 52, 56, 52, 57, 53, 48, 53, 49, 53, 50, 53, 51, 53, 52, 53, 53, 53, 54, 53, 55, 53, 56, 53, 57, 54, 48, 54, 49, 54, 50, 54, 51, 54, 52, 54, 53, 54, 54, 54, 55, 54, 56, 54, 57, 55, 48, 55, 49, 55, 50, 55, 51, 55, 52, 55, 53, 55, 54, 55, 55, 55, 56, 55, 57, 56, 48, 56, 49, 56, 50, 56, 51, 56, 52, 56, 53, 56, 54, 56, 55, 56, 56, 56, 57, 57, 48, 57, 49, 57, 50, 57, 51, 57, 52, 57, 53, 57, 54, 57, 55, 57, 56, 57, 57])), t 90],o 92 (.iaS 1) [t 81, t 83],u (.store 1) [t 92, t 89],o 93 (.iaS 1) [t 84, t 86],u (.store 1) [t 93, t 91]] true
@[simp]def e63_11:=rgF x63_11 rfl
def x63_12:EC:=.rg [m 94 4,o 95 (.bin .sub) [t 94, i 8],m 4 95] false
@[simp]def e63_12:=rgF x63_12 rfl
def x63_13:EC:=.bk 1 (seqs [x63_3,x63_4,x63_5,x63_6,x63_7,x63_8,x63_9,x63_10,x63_11,x63_12])
@[simp]def e63_13:=bkF x63_13 rfl
def x63_14:EC:=.bk 0 (.lp (seqs [(seqs [x63_1,x63_2]),x63_13]))
@[simp]def e63_14:=bkF x63_14 rfl
def x63_15:EC:=.rg [m 96 1,o 97 (.cvI .u32) [t 96],m 12 97] false
@[simp]def e63_15:=rgF x63_15 rfl
def x63_16:EC:=.rg [m 98 4,o 99 (.bin .geq) [t 98, i 4]] false
@[simp]def e63_16:=rgF x63_16 rfl
def x63_17:EC:=.rg [m 100 12,o 101 (.bin .rem) [t 100, c (.t (.int .u32 10000))],m 13 101] false
@[simp]def e63_17:=rgF x63_17 rfl
def x63_18:EC:=.rg [m 102 12,o 103 (.bin .quo) [t 102, c (.t (.int .u32 10000))],m 12 103] false
@[simp]def e63_18:=rgF x63_18 rfl
def x63_19:EC:=.rg [m 104 13,o 105 (.bin .quo) [t 104, c (.t (.int .u32 100))],o 106 (.bin .mul) [t 105, c (.t (.int .u32 2))],m 107 13,o 108 (.bin .rem) [t 107, c (.t (.int .u32 100))],o 109 (.bin .mul) [t 108, c (.t (.int .u32 2))],m 14 106,m 15 109] false
@[simp]def e63_19:=rgF x63_19 rfl
def x63_20:EC:=.rg [m 110 0,m 111 4,o 112 (.bin .sub) [t 111, i 1],m 113 0,m 114 4,o 115 (.bin .sub) [t 114, i 2],m 116 15,o 117 (.bin .add) [t 116, c (.t (.int .u32 1))],o 118 .ixS [c (.t (.str [48, 48, 48, 49, 48, 50, 48, 51, 48, 52, 48, 53, 48, 54, 48, 55, 48, 56, 48, 57, 49, 48, 49, 49, 49, 50, 49, 51, 49, 52, 49, 53, 49, 54, 49, 55, 49, 56, 49, 57, 50, 48, 50, 49, 50, 50, 50, 51, 50, 52, 50, 53, 50, 54, 50, 55, 50, 56, 50, 57, 51, 48, 51, 49, 51, 50, 51, 51, 51, 52, 51, 53, 51, 54, 51, 55, 51, 56, 51, 57, 52, 48, 52, 49, 52, 50, 52, 51, 52, 52, 52, 53, 52, 54, 52, 55, 52, 56, 52, 57, 53, 48, 53, 49, 53, 50, 53, 51, 53, 52, 53, 53, 53, 54, 53, 55, 53, 56, 53, 57, 54, 48, 54, 49, 54, 50, 54, 51, 54, 52, 54, 53, 54, 54, 54, 55, 54, 56, 54, 57, 55, 48, 55, 49, 55, 50, 55, 51, 55, 52, 55, 53, 55, 54, 55, 55, 55, 56, 55, 57, 56, 48, 56, 49, 56, 50, 56, 51, 56, 52, 56, 53, 56, 54, 56, 55, 56, 56, 56, 57, 57, 48, 57, 49, 57, 50, 57, 51, 57, 52, 57, 53, 57, 54, 57, 55, 57, 56, 57, 57])), t 117],m 119 15,o 120 .ixS [c (.t (.str [48, 48, 48, 49, 48, 50, 48, 51, 48, 52, 48, 53, 48, 54, 48, 55, 48, 56, 48, 57, 49, 48, 49, 49, 49, 50, 49, 51, 49, 52, 49, 53, 49, 54, 49, 55, 49, 56, 49, 57, 50, 48, 50, 49, 50, 50, 50, 51, 50, 52, 50, 53, 50, 54, 50, 55, 50, 56, 50, 57, 51, 48, 51, 49, 51, 50, 51, 51, 51, 52, 51, 53, 51, 54, 51, 55, 51, 56, 51, 57, 52, 48, 52, 49, 52, 50, 52, 51, 52, 52, 52, 53, 52, 54, 52, 55, 52, 56, 52, 57, 53, 48, 53, 49, 53, 50, 53, 51, 53, 52, 53, 53, 53, 54, 53, 55, 53, 56, 53, 57, 54, 48, 54, 49, 54, 50, 54, 51, 54, 52, 54, 53, 54, 54, 54, 55, 54, 56, 54, 57, 55, 48, 55, 49, 55, 50, 55, 51, 55, 52, 55, 53, 55, 54, 55, 55, 55, 56, 55, 57, 56, 48, 56, 49, 56, 50, 56, 51, 56, 52, 56, 53, 56, 54, 56, 55, 56, 56, 56, 57, 57, 48, 57, 49, 57, 50, 57, 51, 57, 52, 57, 53, 57, 54, 57, 55, 57, 56, 57, 57])), t 119],o 121 (.iaS 1) [t 110, t 112],u (.store 1) [t 121, t 118],o 122 (.iaS 1) [t 113, t 115],u (.store 1) [t 122, t 120]] true
@[simp]def e63_20:=rgF x63_20 rfl
def x63_21:EC:=.rg [m 123 0,m 124 4,o 125 (.bin .sub) [t 124, i 3],m 126 0,m 127 4,o 128 (.bin .sub) [t 127, i 4],m 129 14,o 130 (.bin .add) [t 129, c (.t (.int .u32 1))],o 131 .ixS [c (.t (.str [48, 48, 48, 49, 48, 50, 48, 51, 48, 52, 48, 53, 48, 54, 48, 55, 48, 56, 48, 57, 49, 48, 49, 49, 49, 50, 49, 51, 49, 52, 49, 53, 49, 54, 49, 55, 49, 56, 49, 57, 50, 48, 50, 49, 50, 50, 50, 51, 50, 52, 50, 53, 50, 54, 50, 55, 50, 56, 50, 57, 51, 48, 51, 49, 51, 50, 51, 51, 51, 52, 51, 53, 51, 54, 51, 55, 51, 56, 51, 57, 52, 48, 52, 49, 52, 50, 52, 51, 52, 52, 52, 53, 52, 54, 52, 55, 52, 56, 52, 57, 53, 48, 53, 49, 53, 50, 53, 51, 53, 52, 53, 53, 53, 54, 53, 55, 53, 56, 53, 57, 54, 48, 54, 49, 54, 50, 54, 51, 54, 52, 54, 53, 54, 54, 54, 55, 54, 56, 54, 57, 55, 48, 55, 49, 55, 50, 55, 51, 55, 52, 55, 53, 55, 54, 55, 55, 55, 56, 55, 57, 56, 48, 56, 49, 56, 50, 56, 51, 56, 52, 56, 53, 56, 54, 56, 55, 56, 56, 56, 57, 57, 48, 57, 49, 57, 50, 57, 51, 57, 52, 57, 53, 57, 54, 57, 55, 57, 56, 57, 57])), t 130],m 132 14,o 133 .ixS [c (.t (.str [48, 48, 48, 49, 48, 50, 48, 51, 48, 52, 48, 53, 48, 54, 48, 55, 48, 56, 48, 57, 49, 48, 49, 49, 49, 50, 49, 51, 49, 52, 49, 53, 49, 54, 49, 55, 49, 56, 49, 57, 50, 48, 50, 49, 50, 50, 50, 51, 50, 52, 50, 53, 50, 54, 50, 55, 50, 56, 50, 57, 51, 48, 51, 49, 51, 50, 51, 51, 51, 52, 51, 53, 51, 54, 51, 55, 51, 56, 51, 57, 52, 48, 52, 49, 52, 50, 52, 51, 52, 52, 52, 53, 52, 54, 52, 55, 52, 56, 52, 57, 53, 48, 53, 49, 53, 50, 53, 51, 53, 52, 53, 53, 53, 54, 53, 55, 53, 56, 53, 57, 54, 48, 54, 49, 54, 50, 54, 51, 54, 52, 54, 53, 54, 54, 54, 55, 54, 56, 54, 57, 55, 48, 55, 49, 55, 50, 55, 51, 55, 52, 55, 53, 55, 54, 55, 55, 55, 56, 55, 57, 56, 48, 56, 49, 56, 50, 56, 51, 56, 52, 56, 53, 56, 54, 56, 55, 56, 56, 56, 57, 57, 48, 57, 49, 57, 50, 57, 51, 57, 52, 57, 53, 57, 54, 57, 55, 57, 56, 57, 57])), t 132],o 134 (.iaS 1) [t 123, t 125],u (.store 1) [t 134, t 131],o 135 (.iaS 1) [t 126, t 128],u (.store 1) [t 135, t 133]] true
@[simp]def e63_21:=rgF x63_21 rfl
def x63_22:EC:=.rg [m 136 4,o 137 (.bin .sub) [t 136, i 4],m 4 137] false
@[simp]def e63_22:=rgF x63_22 rfl
def x63_23:EC:=.cd (t 99) (seqs [x63_17,x63_18,x63_19,x63_20,x63_21,x63_22]) .skip
@[simp]def e63_23:=cdF x63_23 rfl
def x63_24:EC:=.rg [m 138 4,o 139 (.bin .geq) [t 138, i 2]] false
@[simp]def e63_24:=rgF x63_24 rfl
def x63_25:EC:=.rg [m 140 12,o 141 (.bin .rem) [t 140, c (.t (.int .u32 100))],o 142 (.bin .mul) [t 141, c (.t (.int .u32 2))],m 16 142] false
@[simp]def e63_25:=rgF x63_25 rfl
def x63_26:EC:=.rg [m 143 12,o 144 (.bin .quo) [t 143, c (.t (.int .u32 100))],m 12 144] false
@[simp]def e63_26:=rgF x63_26 rfl
def x63_27:EC:=.rg [m 145 0,m 146 4,o 147 (.bin .sub) [t 146, i 1],m 148 0,m 149 4,o 150 (.bin .sub) [t 149, i 2],m 151 16,o 152 (.bin .add) [t 151, c (.t (.int .u32 1))],o 153 .ixS [c (.t (.str [48, 48, 48, 49, 48, 50, 48, 51, 48, 52, 48, 53, 48, 54, 48, 55, 48, 56, 48, 57, 49, 48, 49, 49, 49, 50, 49, 51, 49, 52, 49, 53, 49, 54, 49, 55, 49, 56, 49, 57, 50, 48, 50, 49, 50, 50, 50, 51, 50, 52, 50, 53, 50, 54, 50, 55, 50, 56, 50, 57, 51, 48, 51, 49, 51, 50, 51, 51, 51, 52, 51, 53, 51, 54, 51, 55, 51, 56, 51, 57, 52, 48, 52, 49, 52, 50, 52, 51, 52, 52, 52, 53, 52, 54, 52, 55, 52, 56, 52, 57, 53, 48, 53, 49, 53, 50, 53, 51, 53, 52, 53, 53, 53, 54, 53, 55, 53, 56, 53, 57, 54, 48, 54, 49, 54, 50, 54, 51, 54, 52, 54, 53, 54, 54, 54, 55, 54, 56, 54, 57, 55, 48, 55, 49, 55, 50, 55, 51, 55, 52, 55, 53, 55, 54, 55, 55, 55, 56, 55, 57, 56, 48, 56, 49, 56, 50, 56, 51, 56, 52, 56, 53, 56, 54, 56, 55, 56, 56, 56, 57, 57, 48, 57, 49, 57, 50, 57, 51, 57, 52, 57, 53, 57, 54, 57, 55, 57, 56, 57, 57])), t 152],m 154 16,o 155 .ixS [c (.t (.str [48, 48, 48, 49, 48, 50, 48, 51, 48, 52, 48, 53, 48, 54, 48, 55, 48, 56, 48, 57, 49, 48, 49, 49, 49, 50, 49, 51, 49, 52, 49, 53, 49, 54, 49, 55, 49, 56, 49, 57, 50, 48, 50, 49, 50, 50, 50, 51, 50, 52, 50, 53, 50, 54, 50, 55, 50, 56, 50, 57, 51, 48, 51, 49, 51, 50, 51, 51, 51, 52, 51, 53, 51, 54, 51, 55, 51, 56, 51, 57, 52, 48, 52, 49, 52, 50, 52, 51, 52, 52, 52, 53, 52, 54, 52, 55, 52, 56, 52, 57, 53, 48, 53, 49, 53, 50, 53, 51, 53, 52, 53, 53, 53, 54, 53, 55, 53, 56, 53, 57, 54, 48, 54, 49, 54, 50, 54, 51, 54, 52, 54, 53, 54, 54, 54, 55, 54, 56, 54, 57, 55, 48, 55, 49, 55, 50, 55, 51, 55, 52, 55, 53, 55, 54, 55, 55, 55, 56, 55, 57, 56, 48, 56, 49, 56, 50, 56, 51, 56, 52, 56, 53, 56, 54, 56, 55, 56, 56, 56, 57, 57, 48, 57, 49, 57, 50, 57, 51, 57, 52, 57, 53, 57, 54, 57, 55, 57, 56, 57, 57])), t 154],o 156 (.iaS 1) [t 145, t 147],u (.store 1) [t 156, t 153],o 157 (.iaS 1) [t 148, t 150],u (.store 1) [t 157, t 155]] true
@[simp]def e63_27:=rgF x63_27 rfl
def x63_28:EC:=.rg [m 158 4,o 159 (.bin .sub) [t 158, i 2],m 4 159] false
@[simp]def e63_28:=rgF x63_28 rfl
def x63_29:EC:=.cd (t 139) (seqs [x63_25,x63_26,x63_27,x63_28]) .skip
@[simp]def e63_29:=cdF x63_29 rfl
def x63_30:EC:=.rg [m 160 4,o 161 (.bin .gtr) [t 160, i 0]] false
@[simp]def e63_30:=rgF x63_30 rfl
def x63_31:EC:=.rg [m 162 0,m 163 12,o 164 (.bin .add) [c (.t (.int .u32 48)), t 163],o 165 (.cvI .u8) [t 164],o 166 (.iaS 1) [t 162, i 0],u (.store 1) [t 166, t 165]] false
@[simp]def e63_31:=rgF x63_31 rfl
def x63_32:EC:=.cd (t 161) x63_31 .skip
@[simp]def e63_32:=cdF x63_32 rfl
def c_strconv_formatBase10_63 : EC := (seqs [x63_0,x63_14,x63_15,(seqs [x63_16,x63_23]),(seqs [x63_24,x63_29]),x63_30,x63_32])
theorem k_63 : ecF Tryd.prog 63 = some (167, c_strconv_formatBase10_63, []) := by kernel_rfl

/-- tallystone/token.blank -/
def x65_0:EC:=.rg [o 2 .mv [i 0]] false
@[simp]def e65_0:=rgF x65_0 rfl
def x65_1:EC:=.rg [o 3 .mv [b false]] false
@[simp]def e65_1:=rgF x65_1 rfl
def x65_2:EC:=.rg [m 6 0,o 7 .rngS [t 6]] false
@[simp]def e65_2:=rgF x65_2 rfl
def x65_3:EC:=.rg [o 8 .nxtS [t 7],o 9 (.ext 0) [t 8]] false
@[simp]def e65_3:=rgF x65_3 rfl
def x65_4:EC:=.cd (t 9) .skip (.ex 0)
@[simp]def e65_4:=cdF x65_4 rfl
def x65_5:EC:=.rg [o 10 (.ext 1) [t 8],o 11 (.ext 2) [t 8],m 4 10,m 5 11] false
@[simp]def e65_5:=rgF x65_5 rfl
def x65_6:EC:=.rg [m 13 5,o 14 (.bin .eql) [t 13, c (.t (.int .i32 10))],m 12 14] false
@[simp]def e65_6:=rgF x65_6 rfl
def x65_7:EC:=.cd (t 12) (.ex 3) .skip
@[simp]def e65_7:=cdF x65_7 rfl
def x65_8:EC:=.rg [m 16 3,m 15 16] false
@[simp]def e65_8:=rgF x65_8 rfl
def x65_9:EC:=.rg [m 17 5,o 18 (.bin .eql) [t 17, c (.t (.int .i32 32))],m 15 18] false
@[simp]def e65_9:=rgF x65_9 rfl
def x65_10:EC:=.rg [m 19 5,o 20 (.bin .eql) [t 19, c (.t (.int .i32 9))],m 15 20] false
@[simp]def e65_10:=rgF x65_10 rfl
def x65_11:EC:=.rg [m 21 5,o 22 (.bin .eql) [t 21, c (.t (.int .i32 13))],m 15 22] false
@[simp]def e65_11:=rgF x65_11 rfl
def x65_12:EC:=.cd (t 15) .skip x65_11
@[simp]def e65_12:=cdF x65_12 rfl
def x65_13:EC:=.cd (t 15) .skip (seqs [x65_10,x65_12])
@[simp]def e65_13:=cdF x65_13 rfl
def x65_14:EC:=.cd (t 15) .skip (seqs [x65_9,x65_13])
@[simp]def e65_14:=cdF x65_14 rfl
def x65_15:EC:=.cd (t 15) (.ex 4) .skip
@[simp]def e65_15:=cdF x65_15 rfl
def x65_16:EC:=.rg [m 24 5,o 25 (.bin .eql) [t 24, c (.t (.int .i32 35))],m 23 25] false
@[simp]def e65_16:=rgF x65_16 rfl
def x65_17:EC:=.cd (t 23) (.ex 5) .skip
@[simp]def e65_17:=cdF x65_17 rfl
def x65_18:EC:=.bk 3 (seqs [(seqs [(seqs [x65_6,x65_7]),(seqs [(seqs [x65_8,x65_14]),x65_15]),x65_16,x65_17]),(.ex 6)])
@[simp]def e65_18:=bkF x65_18 rfl
def x65_19:EC:=.rg [o 3 .mv [b false]] false
@[simp]def e65_19:=rgF x65_19 rfl
def x65_20:EC:=.bk 4 (seqs [x65_18,x65_19])
@[simp]def e65_20:=bkF x65_20 rfl
def x65_21:EC:=.bk 5 (seqs [x65_20,(.ex 2)])
@[simp]def e65_21:=bkF x65_21 rfl
def x65_22:EC:=.rg [o 3 .mv [b true]] false
@[simp]def e65_22:=rgF x65_22 rfl
def x65_23:EC:=.bk 6 (seqs [x65_21,x65_22,(.ex 2)])
@[simp]def e65_23:=bkF x65_23 rfl
def x65_24:EC:=.rg [m 26 4,m 2 26] false
@[simp]def e65_24:=rgF x65_24 rfl
def x65_25:EC:=.bk 2 (seqs [x65_23,(seqs [x65_24,.rt]),(.ex 2)])
@[simp]def e65_25:=bkF x65_25 rfl
def x65_26:EC:=.bk 1 (seqs [x65_5,x65_25])
@[simp]def e65_26:=bkF x65_26 rfl
def x65_27:EC:=.bk 0 (.lp (seqs [x65_3,x65_4,x65_26]))
@[simp]def e65_27:=bkF x65_27 rfl
def x65_28:EC:=.rg [m 27 0,o 28 .lenS [t 27],m 2 28] false
@[simp]def e65_28:=rgF x65_28 rfl
def c_token_blank_65 : EC := (seqs [x65_0,x65_1,(seqs [x65_2,x65_27]),x65_28,.rt])
theorem k_65 : ecF Tryd.prog 65 = some (29, c_token_blank_65, [.tm 2]) := by kernel_rfl

/-- tallystone/token.next -/
def x66_0:EC:=.rg [o 2 .mv [i 0],o 3 .mv [i 0]] false
@[simp]def e66_0:=rgF x66_0 rfl
def x66_1:EC:=.rg [m 5 0,o 6 .ixS [t 5, i 0],o 7 (.call 77) [t 6],m 4 7] false
@[simp]def e66_1:=rgF x66_1 rfl
def x66_2:EC:=.rg [m 8 0,o 9 (.call 78) [t 8, c (.fn (.func 79) [])],o 2 .mv [i 1],m 3 9] false
@[simp]def e66_2:=rgF x66_2 rfl
def x66_3:EC:=.rg [m 11 0,o 12 .ixS [t 11, i 0],o 13 (.call 80) [t 12],m 10 13] false
@[simp]def e66_3:=rgF x66_3 rfl
def x66_4:EC:=.rg [m 14 0,o 15 (.call 78) [t 14, c (.fn (.func 80) [])],o 2 .mv [i 2],m 3 15] false
@[simp]def e66_4:=rgF x66_4 rfl
def x66_5:EC:=.rg [m 17 0,o 18 .lenS [t 17],o 19 (.bin .gtr) [t 18, i 1],m 20 19,y 21 20 (.call 82) [c (.t (.str [46, 46, 32, 60, 61, 32, 62, 61, 32, 33, 61]))],y 22 20 .mv [t 0],y 23 20 (.slS false true) [t 22, i 2],y 24 20 (.call 81) [t 21, t 23],o 25 .pick [t 20, t 24, b false],m 16 25] true
@[simp]def e66_5:=rgF x66_5 rfl
def x66_6:EC:=.rg [o 2 .mv [i 3],o 3 .mv [i 2]] false
@[simp]def e66_6:=rgF x66_6 rfl
def x66_7:EC:=.rg [m 27 0,o 28 .ixS [t 27, i 0],o 29 (.call 83) [c (.t (.str [123, 125, 40, 41, 44, 59, 61, 43, 45, 42, 60, 62])), t 28],o 30 (.bin .geq) [t 29, i 0],m 26 30] false
@[simp]def e66_7:=rgF x66_7 rfl
def x66_8:EC:=.rg [o 2 .mv [i 3],o 3 .mv [i 1]] false
@[simp]def e66_8:=rgF x66_8 rfl
def x66_9:EC:=.cd (t 26) (seqs [x66_8,.rt]) .skip
@[simp]def e66_9:=cdF x66_9 rfl
def x66_10:EC:=.cd (t 16) (seqs [x66_6,.rt]) (seqs [x66_7,x66_9])
@[simp]def e66_10:=cdF x66_10 rfl
def x66_11:EC:=.cd (t 10) (seqs [x66_4,.rt]) (seqs [x66_5,x66_10])
@[simp]def e66_11:=cdF x66_11 rfl
def x66_12:EC:=.cd (t 4) (seqs [x66_2,.rt]) (seqs [x66_3,x66_11])
@[simp]def e66_12:=cdF x66_12 rfl
def x66_13:EC:=.bk 0 (seqs [x66_1,x66_12])
@[simp]def e66_13:=bkF x66_13 rfl
def x66_14:EC:=.rg [o 2 .mv [i 0],o 3 .mv [i 0]] false
@[simp]def e66_14:=rgF x66_14 rfl
def c_token_next_66 : EC := (seqs [x66_0,x66_13,x66_14,.rt])
theorem k_66 : ecF Tryd.prog 66 = some (31, c_token_next_66, [.tm 2, .tm 3]) := by kernel_rfl

/-- tallystone/token.Value -/
def x67_0:EC:=.rg [o 1 .box [t 0],o 2 .mv [i 0],o 3 .mv [b false]] false
@[simp]def e67_0:=rgF x67_0 rfl
def x67_1:EC:=.rg [o 7 (.faddr 0) [t 1],o 8 (.load 1 false) [t 7],o 9 (.bin .neq) [t 8, i 2],m 10 9,n 11 10 (.faddr 1) [t 1],n 12 10 (.load 1 false) [t 11],n 13 10 (.bin .eql) [t 12, c (.t (.str []))],o 14 .pick [t 10, b true, t 13],m 15 14,n 16 15 (.faddr 1) [t 1],n 17 15 (.load 1 false) [t 16],n 18 15 (.call 78) [t 17, c (.fn (.func 80) [])],n 19 15 (.faddr 1) [t 1],n 20 15 (.load 1 false) [t 19],n 21 15 .lenS [t 20],n 22 15 (.bin .lss) [t 18, t 21],o 23 .pick [t 15, b true, t 22]] true
@[simp]def e67_1:=rgF x67_1 rfl
def x67_2:EC:=.rg [o 2 .mv [i 0],o 3 .mv [b false]] false
@[simp]def e67_2:=rgF x67_2 rfl
def x67_3:EC:=.cd (t 23) (seqs [x67_2,.rt]) .skip
@[simp]def e67_3:=cdF x67_3 rfl
def x67_4:EC:=.rg [o 4 .mv [i 0]] false
@[simp]def e67_4:=rgF x67_4 rfl
def x67_5:EC:=.rg [o 24 (.faddr 1) [t 1],o 25 (.load 1 false) [t 24],o 26 .rngS [t 25]] false
@[simp]def e67_5:=rgF x67_5 rfl
def x67_6:EC:=.rg [o 27 .nxtS [t 26],o 28 (.ext 0) [t 27]] false
@[simp]def e67_6:=rgF x67_6 rfl
def x67_7:EC:=.cd (t 28) .skip (.ex 0)
@[simp]def e67_7:=cdF x67_7 rfl
def x67_8:EC:=.rg [o 29 (.ext 2) [t 27],m 6 29] false
@[simp]def e67_8:=rgF x67_8 rfl
def x67_9:EC:=.rg [m 30 4,o 31 (.bin .mul) [i 10, t 30],m 32 6,o 33 (.bin .sub) [t 32, c (.t (.int .i32 48))],o 34 (.cvI .i64) [t 33],o 35 (.bin .add) [t 31, t 34],m 4 35] false
@[simp]def e67_9:=rgF x67_9 rfl
def x67_10:EC:=.rg [m 36 4,o 37 (.bin .gtr) [t 36, i 1000000000000]] false
@[simp]def e67_10:=rgF x67_10 rfl
def x67_11:EC:=.rg [o 2 .mv [i 0],o 3 .mv [b false]] false
@[simp]def e67_11:=rgF x67_11 rfl
def x67_12:EC:=.cd (t 37) (seqs [x67_11,.rt]) .skip
@[simp]def e67_12:=cdF x67_12 rfl
def x67_13:EC:=.bk 1 (seqs [x67_8,x67_9,x67_10,x67_12])
@[simp]def e67_13:=bkF x67_13 rfl
def x67_14:EC:=.bk 0 (.lp (seqs [x67_6,x67_7,x67_13]))
@[simp]def e67_14:=bkF x67_14 rfl
def x67_15:EC:=.rg [m 38 4,m 2 38,o 3 .mv [b true]] false
@[simp]def e67_15:=rgF x67_15 rfl
def c_token_Value_67 : EC := (seqs [x67_0,(seqs [x67_1,x67_3]),x67_4,(seqs [x67_5,x67_14]),x67_15,.rt])
theorem k_67 : ecF Tryd.prog 67 = some (39, c_token_Value_67, [.tm 2, .tm 3]) := by kernel_rfl

/-- tallystone/syntax.args -/
def x68_0:EC:=.rg [o 2 .mv [i 0]] false
@[simp]def e68_0:=rgF x68_0 rfl
def x68_1:EC:=.rg [m 4 0,o 5 (.bin .geq) [t 4, i 3],m 6 5,y 7 6 .mv [t 0],y 8 6 (.bin .leq) [t 7, i 6],o 9 .pick [t 6, t 8, b false],m 3 9] false
@[simp]def e68_1:=rgF x68_1 rfl
def x68_2:EC:=.rg [m 10 0,o 11 (.bin .eql) [t 10, i 20],m 3 11] false
@[simp]def e68_2:=rgF x68_2 rfl
def x68_3:EC:=.cd (t 3) .skip x68_2
@[simp]def e68_3:=cdF x68_3 rfl
def x68_4:EC:=.rg [o 2 .mv [i 1]] false
@[simp]def e68_4:=rgF x68_4 rfl
def x68_5:EC:=.rg [m 13 0,o 14 (.bin .geq) [t 13, i 7],m 15 14,y 16 15 .mv [t 0],y 17 15 (.bin .leq) [t 16, i 19],o 18 .pick [t 15, t 17, b false],m 12 18] false
@[simp]def e68_5:=rgF x68_5 rfl
def x68_6:EC:=.rg [o 2 .mv [i 2]] false
@[simp]def e68_6:=rgF x68_6 rfl
def x68_7:EC:=.cd (t 12) (seqs [x68_6,.rt]) .skip
@[simp]def e68_7:=cdF x68_7 rfl
def x68_8:EC:=.cd (t 3) (seqs [x68_4,.rt]) (seqs [x68_5,x68_7])
@[simp]def e68_8:=cdF x68_8 rfl
def x68_9:EC:=.bk 0 (seqs [(seqs [x68_1,x68_3]),x68_8])
@[simp]def e68_9:=bkF x68_9 rfl
def x68_10:EC:=.rg [o 2 .mv [i 0]] false
@[simp]def e68_10:=rgF x68_10 rfl
def c_syntax_args_68 : EC := (seqs [x68_0,x68_9,x68_10,.rt])
theorem k_68 : ecF Tryd.prog 68 = some (19, c_syntax_args_68, [.tm 2]) := by kernel_rfl

/-- slices.ContainsFunc[[]tallystone/syntax.Expr,tallystone/syntax.Expr] -/
def x69_0:EC:=.rg [o 4 .mv [b false]] false
@[simp]def e69_0:=rgF x69_0 rfl
def x69_1:EC:=.rg [m 5 0,m 6 1,o 7 (.call 84) [t 5, t 6],o 8 (.bin .geq) [t 7, i 0],m 4 8] false
@[simp]def e69_1:=rgF x69_1 rfl
def c_syntax_Expr__69 : EC := (seqs [x69_0,x69_1,.rt])
theorem k_69 : ecF Tryd.prog 69 = some (9, c_syntax_Expr__69, [.tm 4]) := by kernel_rfl

/-- tallystone/syntax.proper$1 -/
def x70_0:EC:=.rg [o 1 .box [t 0],o 2 .mv [b false]] false
@[simp]def e70_0:=rgF x70_0 rfl
def x70_1:EC:=.rg [o 3 (.load 6 true) [t 1],o 4 (.call 57) [t 3],o 5 (.un .not) [t 4],m 2 5] false
@[simp]def e70_1:=rgF x70_1 rfl
def c_syntax_properS1_70 : EC := (seqs [x70_0,x70_1,.rt])
theorem k_70 : ecF Tryd.prog 70 = some (6, c_syntax_properS1_70, [.tm 2]) := by kernel_rfl

/-- (tallystone/check.checker).operands -/
def x71_0:EC:=.rg [o 3 .box [t 0],o 4 .box [t 1]] false
@[simp]def e71_0:=rgF x71_0 rfl
def x71_1:EC:=.rg [o 6 .mv [b false]] false
@[simp]def e71_1:=rgF x71_1 rfl
def x71_2:EC:=.rg [o 9 (.faddr 5) [t 4],o 10 (.load 1 false) [t 9],o 11 .lenL [t 10],o 12 .mv [i 0]] false
@[simp]def e71_2:=rgF x71_2 rfl
def x71_3:EC:=.rg [o 13 (.bin .lss) [t 12, t 11]] false
@[simp]def e71_3:=rgF x71_3 rfl
def x71_4:EC:=.cd (t 13) .skip (.ex 0)
@[simp]def e71_4:=cdF x71_4 rfl
def x71_5:EC:=.rg [o 14 (.iaS 6) [t 10, t 12],o 15 (.load 6 true) [t 14],o 8 (.alloc [.t (.int .i64 0), .t (.int .i64 0), .t (.int .i64 0), .t (.int .i64 0), .t (.str []), .snil]) [],u (.store 6) [t 8, t 15]] false
@[simp]def e71_5:=rgF x71_5 rfl
def x71_6:EC:=.rg [o 16 (.load 2 true) [t 3],o 17 (.load 6 true) [t 8],o 18 (.call 60) [t 16, t 17],m 19 2,o 20 (.bin .neq) [t 18, t 19],m 21 20,n 22 21 .mv [t 6],o 23 .pick [t 21, b true, t 22],m 6 23] false
@[simp]def e71_6:=rgF x71_6 rfl
def x71_7:EC:=.bk 1 (seqs [x71_5,x71_6])
@[simp]def e71_7:=bkF x71_7 rfl
def x71_8:EC:=.rg [o 24 (.bin .add) [t 12, i 1],m 12 24] false
@[simp]def e71_8:=rgF x71_8 rfl
def x71_9:EC:=.bk 0 (.lp (seqs [x71_3,x71_4,x71_7,x71_8]))
@[simp]def e71_9:=bkF x71_9 rfl
def x71_10:EC:=.rg [m 25 6] false
@[simp]def e71_10:=rgF x71_10 rfl
def x71_11:EC:=.rg [o 26 (.mki 135) [i 16],u .pan [t 26]] false
@[simp]def e71_11:=rgF x71_11 rfl
def x71_12:EC:=.cd (t 25) x71_11 .skip
@[simp]def e71_12:=cdF x71_12 rfl
def c_check_checker__operands_71 : EC := (seqs [x71_0,x71_1,(seqs [x71_2,x71_9]),x71_10,x71_12])
theorem k_71 : ecF Tryd.prog 71 = some (27, c_check_checker__operands_71, []) := by kernel_rfl

/-- internal/strconv.bool2[int] -/
def x74_0:EC:=.rg [o 2 .mv [i 0]] false
@[simp]def e74_0:=rgF x74_0 rfl
def x74_1:EC:=.rg [m 3 0] false
@[simp]def e74_1:=rgF x74_1 rfl
def x74_2:EC:=.rg [o 2 .mv [i 1]] false
@[simp]def e74_2:=rgF x74_2 rfl
def x74_3:EC:=.cd (t 3) (seqs [x74_2,.rt]) .skip
@[simp]def e74_3:=cdF x74_3 rfl
def x74_4:EC:=.rg [o 2 .mv [i 0]] false
@[simp]def e74_4:=rgF x74_4 rfl
def c_strconv_bool2_int__74 : EC := (seqs [x74_0,(seqs [x74_1,x74_3]),x74_4,.rt])
theorem k_74 : ecF Tryd.prog 74 = some (4, c_strconv_bool2_int__74, [.tm 2]) := by kernel_rfl

/-- internal/strconv.isPowerOfTwo -/
def x75_0:EC:=.rg [o 2 .mv [b false]] false
@[simp]def e75_0:=rgF x75_0 rfl
def x75_1:EC:=.rg [m 3 0,m 4 0,o 5 (.bin .sub) [t 4, i 1],o 6 (.bin .and) [t 3, t 5],o 7 (.bin .eql) [t 6, i 0],m 2 7] false
@[simp]def e75_1:=rgF x75_1 rfl
def c_strconv_isPowerOfTwo_75 : EC := (seqs [x75_0,x75_1,.rt])
theorem k_75 : ecF Tryd.prog 75 = some (8, c_strconv_isPowerOfTwo_75, [.tm 2]) := by kernel_rfl

/-- math/bits.TrailingZeros -/
def x76_0:EC:=.rg [o 2 .mv [i 0]] false
@[simp]def e76_0:=rgF x76_0 rfl
def x76_1:EC:=.rg [m 3 0,o 4 (.cvI .u32) [t 3],o 5 (.call 85) [t 4],m 2 5] false
@[simp]def e76_1:=rgF x76_1 rfl
def x76_2:EC:=.cd (b false) (seqs [x76_1,.rt]) .skip
@[simp]def e76_2:=cdF x76_2 rfl
def x76_3:EC:=.rg [m 6 0,o 7 (.call 86) [t 6],m 2 7] false
@[simp]def e76_3:=rgF x76_3 rfl
def c_bits_TrailingZeros_76 : EC := (seqs [x76_0,x76_2,x76_3,.rt])
theorem k_76 : ecF Tryd.prog 76 = some (8, c_bits_TrailingZeros_76, [.tm 2]) := by kernel_rfl

/-- tallystone/token.letter -/
def x77_0:EC:=.rg [o 2 .mv [b false]] false
@[simp]def e77_0:=rgF x77_0 rfl
def x77_1:EC:=.rg [m 3 0,o 4 (.bin .geq) [t 3, c (.t (.int .u8 97))],m 5 4,y 6 5 .mv [t 0],y 7 5 (.bin .leq) [t 6, c (.t (.int .u8 122))],o 8 .pick [t 5, t 7, b false],m 2 8] false
@[simp]def e77_1:=rgF x77_1 rfl
def c_token_letter_77 : EC := (seqs [x77_0,x77_1,.rt])
theorem k_77 : ecF Tryd.prog 77 = some (9, c_token_letter_77, [.tm 2]) := by kernel_rfl

/-- tallystone/token.run -/
def x78_0:EC:=.rg [o 4 .mv [i 0]] false
@[simp]def e78_0:=rgF x78_0 rfl
def x78_1:EC:=.rg [m 6 0,o 7 .lenS [t 6],o 8 .mv [i 0]] false
@[simp]def e78_1:=rgF x78_1 rfl
def x78_2:EC:=.rg [o 9 (.bin .lss) [t 8, t 7]] false
@[simp]def e78_2:=rgF x78_2 rfl
def x78_3:EC:=.cd (t 9) .skip (.ex 0)
@[simp]def e78_3:=cdF x78_3 rfl
def x78_4:EC:=.rg [m 10 8,m 5 10] false
@[simp]def e78_4:=rgF x78_4 rfl
def x78_5:EC:=.rg [m 11 1,m 12 0,m 13 5,o 14 .ixS [t 12, t 13],o 15 .callv [t 11, t 14],o 16 (.un .not) [t 15]] false
@[simp]def e78_5:=rgF x78_5 rfl
def x78_6:EC:=.rg [m 17 5,m 4 17] false
@[simp]def e78_6:=rgF x78_6 rfl
def x78_7:EC:=.cd (t 16) (seqs [x78_6,.rt]) .skip
@[simp]def e78_7:=cdF x78_7 rfl
def x78_8:EC:=.bk 1 (seqs [x78_4,x78_5,x78_7])
@[simp]def e78_8:=bkF x78_8 rfl
def x78_9:EC:=.rg [o 18 (.bin .add) [t 8, i 1],m 8 18] false
@[simp]def e78_9:=rgF x78_9 rfl
def x78_10:EC:=.bk 0 (.lp (seqs [x78_2,x78_3,x78_8,x78_9]))
@[simp]def e78_10:=bkF x78_10 rfl
def x78_11:EC:=.rg [m 19 0,o 20 .lenS [t 19],m 4 20] false
@[simp]def e78_11:=rgF x78_11 rfl
def c_token_run_78 : EC := (seqs [x78_0,(seqs [x78_1,x78_10]),x78_11,.rt])
theorem k_78 : ecF Tryd.prog 78 = some (21, c_token_run_78, [.tm 4]) := by kernel_rfl

/-- tallystone/token.next$1 -/
def x79_0:EC:=.rg [o 2 .mv [b false]] false
@[simp]def e79_0:=rgF x79_0 rfl
def x79_1:EC:=.rg [m 3 0,o 4 (.call 77) [t 3],m 5 4,n 6 5 .mv [t 0],n 7 5 (.call 80) [t 6],o 8 .pick [t 5, b true, t 7],m 9 8,n 10 9 .mv [t 0],n 11 9 (.bin .eql) [t 10, c (.t (.int .u8 95))],o 12 .pick [t 9, b true, t 11],m 2 12] false
@[simp]def e79_1:=rgF x79_1 rfl
def c_token_nextS1_79 : EC := (seqs [x79_0,x79_1,.rt])
theorem k_79 : ecF Tryd.prog 79 = some (13, c_token_nextS1_79, [.tm 2]) := by kernel_rfl

/-- tallystone/token.digit -/
def x80_0:EC:=.rg [o 2 .mv [b false]] false
@[simp]def e80_0:=rgF x80_0 rfl
def x80_1:EC:=.rg [m 3 0,o 4 (.bin .geq) [t 3, c (.t (.int .u8 48))],m 5 4,y 6 5 .mv [t 0],y 7 5 (.bin .leq) [t 6, c (.t (.int .u8 57))],o 8 .pick [t 5, t 7, b false],m 2 8] false
@[simp]def e80_1:=rgF x80_1 rfl
def c_token_digit_80 : EC := (seqs [x80_0,x80_1,.rt])
theorem k_80 : ecF Tryd.prog 80 = some (9, c_token_digit_80, [.tm 2]) := by kernel_rfl

/-- slices.Contains[[]string,string] -/
def x81_0:EC:=.rg [o 4 .mv [b false]] false
@[simp]def e81_0:=rgF x81_0 rfl
def x81_1:EC:=.rg [m 5 0,m 6 1,o 7 (.call 87) [t 5, t 6],o 8 (.bin .geq) [t 7, i 0],m 4 8] false
@[simp]def e81_1:=rgF x81_1 rfl
def c_slices_Contains___string_string__81 : EC := (seqs [x81_0,x81_1,.rt])
theorem k_81 : ecF Tryd.prog 81 = some (9, c_slices_Contains___string_string__81, [.tm 4]) := by kernel_rfl

/-- strings.Fields -/
def x82_0:EC:=.rg [o 2 .mv [c (.snil)]] false
@[simp]def e82_0:=rgF x82_0 rfl
def x82_1:EC:=.rg [o 3 .mv [i 0]] false
@[simp]def e82_1:=rgF x82_1 rfl
def x82_2:EC:=.rg [o 4 .mv [i 1]] false
@[simp]def e82_2:=rgF x82_2 rfl
def x82_3:EC:=.rg [o 5 .mv [c (.t (.int .u8 0))]] false
@[simp]def e82_3:=rgF x82_3 rfl
def x82_4:EC:=.rg [o 6 .mv [i 0]] false
@[simp]def e82_4:=rgF x82_4 rfl
def x82_5:EC:=.rg [m 13 6,m 14 0,o 15 .lenS [t 14],o 16 (.bin .lss) [t 13, t 15]] false
@[simp]def e82_5:=rgF x82_5 rfl
def x82_6:EC:=.cd (t 16) .skip (.ex 0)
@[simp]def e82_6:=cdF x82_6 rfl
def x82_7:EC:=.rg [m 19 0,m 20 6,o 21 .ixS [t 19, t 20],m 7 21] false
@[simp]def e82_7:=rgF x82_7 rfl
def x82_8:EC:=.rg [m 22 5,m 23 7,o 24 (.bin .or) [t 22, t 23],m 5 24] false
@[simp]def e82_8:=rgF x82_8 rfl
def x82_9:EC:=.rg [m 25 7,o 26 (.iaA 256 1) [c (laidTp 1), t 25],o 27 (.load 1 false) [t 26],o 28 (.cvI .i64) [t 27],m 8 28] false
@[simp]def e82_9:=rgF x82_9 rfl
def x82_10:EC:=.rg [m 29 3,m 30 4,m 31 8,o 32 (.un .xor) [t 31],o 33 (.bin .and) [t 30, t 32],o 34 (.bin .add) [t 29, t 33],m 3 34] false
@[simp]def e82_10:=rgF x82_10 rfl
def x82_11:EC:=.rg [m 35 8,m 4 35] false
@[simp]def e82_11:=rgF x82_11 rfl
def x82_12:EC:=.bk 1 (seqs [x82_7,x82_8,x82_9,x82_10,x82_11])
@[simp]def e82_12:=bkF x82_12 rfl
def x82_13:EC:=.rg [m 17 6,o 18 (.bin .add) [t 17, i 1],m 6 18] false
@[simp]def e82_13:=rgF x82_13 rfl
def x82_14:EC:=.bk 0 (.lp (seqs [(seqs [x82_5,x82_6]),x82_12,x82_13]))
@[simp]def e82_14:=bkF x82_14 rfl
def x82_15:EC:=.rg [m 36 5,o 37 (.bin .geq) [t 36, c (.t (.int .u8 128))]] false
@[simp]def e82_15:=rgF x82_15 rfl
def x82_16:EC:=.rg [m 38 0,o 39 (.call 88) [t 38, c (.fn (.func 89) [])],m 2 39] false
@[simp]def e82_16:=rgF x82_16 rfl
def x82_17:EC:=.cd (t 37) (seqs [x82_16,.rt]) .skip
@[simp]def e82_17:=cdF x82_17 rfl
def x82_18:EC:=.rg [m 40 3,o 41 (.mks 9 1 16 [.t (.str [])]) [t 40, t 40],m 9 41] false
@[simp]def e82_18:=rgF x82_18 rfl
def x82_19:EC:=.rg [o 10 .mv [i 0]] false
@[simp]def e82_19:=rgF x82_19 rfl
def x82_20:EC:=.rg [o 11 .mv [i 0]] false
@[simp]def e82_20:=rgF x82_20 rfl
def x82_21:EC:=.rg [o 12 .mv [i 0]] false
@[simp]def e82_21:=rgF x82_21 rfl
def x82_22:EC:=.rg [m 42 12,m 43 0,o 44 .lenS [t 43],o 45 (.bin .lss) [t 42, t 44],m 46 45,y 47 46 .mv [t 0],y 48 46 .mv [t 12],y 49 46 .ixS [t 47, t 48],y 50 46 (.iaA 256 1) [c (laidTp 1), t 49],y 51 46 (.load 1 false) [t 50],y 52 46 (.bin .neq) [t 51, c (.t (.int .u8 0))],o 53 .pick [t 46, t 52, b false]] false
@[simp]def e82_22:=rgF x82_22 rfl
def x82_23:EC:=.cd (t 53) .skip (.ex 2)
@[simp]def e82_23:=cdF x82_23 rfl
def x82_24:EC:=.rg [m 54 12,o 55 (.bin .add) [t 54, i 1],m 12 55] false
@[simp]def e82_24:=rgF x82_24 rfl
def x82_25:EC:=.bk 3 x82_24
@[simp]def e82_25:=bkF x82_25 rfl
def x82_26:EC:=.bk 2 (.lp (seqs [(seqs [x82_22,x82_23]),x82_25]))
@[simp]def e82_26:=bkF x82_26 rfl
def x82_27:EC:=.rg [m 56 12,m 11 56] false
@[simp]def e82_27:=rgF x82_27 rfl
def x82_28:EC:=.rg [m 57 12,m 58 0,o 59 .lenS [t 58],o 60 (.bin .lss) [t 57, t 59]] false
@[simp]def e82_28:=rgF x82_28 rfl
def x82_29:EC:=.cd (t 60) .skip (.ex 4)
@[simp]def e82_29:=cdF x82_29 rfl
def x82_30:EC:=.rg [m 61 0,m 62 12,o 63 .ixS [t 61, t 62],o 64 (.iaA 256 1) [c (laidTp 1), t 63],o 65 (.load 1 false) [t 64],o 66 (.bin .eql) [t 65, c (.t (.int .u8 0))]] false
@[simp]def e82_30:=rgF x82_30 rfl
def x82_31:EC:=.rg [m 67 12,o 68 (.bin .add) [t 67, i 1],m 12 68] false
@[simp]def e82_31:=rgF x82_31 rfl
def x82_32:EC:=.cd (t 66) (seqs [x82_31,(.ex 5)]) .skip
@[simp]def e82_32:=cdF x82_32 rfl
def x82_33:EC:=.rg [m 69 9,m 70 10,m 71 0,m 72 11,m 73 12,o 74 (.slS true true) [t 71, t 72, t 73],o 75 (.iaS 1) [t 69, t 70],u (.store 1) [t 75, t 74]] false
@[simp]def e82_33:=rgF x82_33 rfl
def x82_34:EC:=.rg [m 76 10,o 77 (.bin .add) [t 76, i 1],m 10 77] false
@[simp]def e82_34:=rgF x82_34 rfl
def x82_35:EC:=.rg [m 78 12,o 79 (.bin .add) [t 78, i 1],m 12 79] false
@[simp]def e82_35:=rgF x82_35 rfl
def x82_36:EC:=.rg [m 80 12,m 81 0,o 82 .lenS [t 81],o 83 (.bin .lss) [t 80, t 82],m 84 83,y 85 84 .mv [t 0],y 86 84 .mv [t 12],y 87 84 .ixS [t 85, t 86],y 88 84 (.iaA 256 1) [c (laidTp 1), t 87],y 89 84 (.load 1 false) [t 88],y 90 84 (.bin .neq) [t 89, c (.t (.int .u8 0))],o 91 .pick [t 84, t 90, b false]] false
@[simp]def e82_36:=rgF x82_36 rfl
def x82_37:EC:=.cd (t 91) .skip (.ex 6)
@[simp]def e82_37:=cdF x82_37 rfl
def x82_38:EC:=.rg [m 92 12,o 93 (.bin .add) [t 92, i 1],m 12 93] false
@[simp]def e82_38:=rgF x82_38 rfl
def x82_39:EC:=.bk 7 x82_38
@[simp]def e82_39:=bkF x82_39 rfl
def x82_40:EC:=.bk 6 (.lp (seqs [(seqs [x82_36,x82_37]),x82_39]))
@[simp]def e82_40:=bkF x82_40 rfl
def x82_41:EC:=.rg [m 94 12,m 11 94] false
@[simp]def e82_41:=rgF x82_41 rfl
def x82_42:EC:=.bk 5 (seqs [(seqs [x82_30,x82_32]),x82_33,x82_34,x82_35,x82_40,x82_41])
@[simp]def e82_42:=bkF x82_42 rfl
def x82_43:EC:=.bk 4 (.lp (seqs [(seqs [x82_28,x82_29]),x82_42]))
@[simp]def e82_43:=bkF x82_43 rfl
def x82_44:EC:=.rg [m 95 11,m 96 0,o 97 .lenS [t 96],o 98 (.bin .lss) [t 95, t 97]] false
@[simp]def e82_44:=rgF x82_44 rfl
def x82_45:EC:=.rg [m 99 9,m 100 10,m 101 0,m 102 11,o 103 (.slS true false) [t 101, t 102],o 104 (.iaS 1) [t 99, t 100],u (.store 1) [t 104, t 103]] false
@[simp]def e82_45:=rgF x82_45 rfl
def x82_46:EC:=.cd (t 98) x82_45 .skip
@[simp]def e82_46:=cdF x82_46 rfl
def x82_47:EC:=.rg [m 105 9,m 2 105] false
@[simp]def e82_47:=rgF x82_47 rfl
def c_strings_Fields_82 : EC := (seqs [x82_0,x82_1,x82_2,x82_3,(seqs [x82_4,x82_14]),(seqs [x82_15,x82_17]),x82_18,x82_19,x82_20,x82_21,x82_26,x82_27,x82_43,(seqs [x82_44,x82_46]),x82_47,.rt])
theorem k_82 : ecF Tryd.prog 82 = some (106, c_strings_Fields_82, [.tm 2]) := by kernel_rfl

/-- strings.IndexByte -/
def x83_0:EC:=.rg [o 4 .mv [i 0]] false
@[simp]def e83_0:=rgF x83_0 rfl
def x83_1:EC:=.rg [m 5 0,m 6 1,o 7 (.call 90) [t 5, t 6],m 4 7] false
@[simp]def e83_1:=rgF x83_1 rfl
def c_strings_IndexByte_83 : EC := (seqs [x83_0,x83_1,.rt])
theorem k_83 : ecF Tryd.prog 83 = some (8, c_strings_IndexByte_83, [.tm 4]) := by kernel_rfl

/-- slices.IndexFunc[[]tallystone/syntax.Expr,tallystone/syntax.Expr] -/
def x84_0:EC:=.rg [o 4 .mv [i 0]] false
@[simp]def e84_0:=rgF x84_0 rfl
def x84_1:EC:=.rg [m 6 0,o 7 .lenL [t 6],o 8 .mv [i 0]] false
@[simp]def e84_1:=rgF x84_1 rfl
def x84_2:EC:=.rg [o 9 (.bin .lss) [t 8, t 7]] false
@[simp]def e84_2:=rgF x84_2 rfl
def x84_3:EC:=.cd (t 9) .skip (.ex 0)
@[simp]def e84_3:=cdF x84_3 rfl
def x84_4:EC:=.rg [m 10 8,m 5 10] false
@[simp]def e84_4:=rgF x84_4 rfl
def x84_5:EC:=.rg [m 11 1,m 12 0,m 13 5,o 14 (.iaS 6) [t 12, t 13],o 15 (.load 6 true) [t 14],o 16 .callv [t 11, t 15]] false
@[simp]def e84_5:=rgF x84_5 rfl
def x84_6:EC:=.rg [m 17 5,m 4 17] false
@[simp]def e84_6:=rgF x84_6 rfl
def x84_7:EC:=.cd (t 16) (seqs [x84_6,.rt]) .skip
@[simp]def e84_7:=cdF x84_7 rfl
def x84_8:EC:=.bk 1 (seqs [x84_4,x84_5,x84_7])
@[simp]def e84_8:=bkF x84_8 rfl
def x84_9:EC:=.rg [o 18 (.bin .add) [t 8, i 1],m 8 18] false
@[simp]def e84_9:=rgF x84_9 rfl
def x84_10:EC:=.bk 0 (.lp (seqs [x84_2,x84_3,x84_8,x84_9]))
@[simp]def e84_10:=bkF x84_10 rfl
def x84_11:EC:=.rg [o 4 .mv [i (-1)]] false
@[simp]def e84_11:=rgF x84_11 rfl
def c_syntax_Expr__84 : EC := (seqs [x84_0,(seqs [x84_1,x84_10]),x84_11,.rt])
theorem k_84 : ecF Tryd.prog 84 = some (19, c_syntax_Expr__84, [.tm 4]) := by kernel_rfl

/-- slices.Index[[]string,string] -/
def x87_0:EC:=.rg [o 4 .mv [i 0]] false
@[simp]def e87_0:=rgF x87_0 rfl
def x87_1:EC:=.rg [m 6 0,o 7 .lenL [t 6],o 8 .mv [i 0]] false
@[simp]def e87_1:=rgF x87_1 rfl
def x87_2:EC:=.rg [o 9 (.bin .lss) [t 8, t 7]] false
@[simp]def e87_2:=rgF x87_2 rfl
def x87_3:EC:=.cd (t 9) .skip (.ex 0)
@[simp]def e87_3:=cdF x87_3 rfl
def x87_4:EC:=.rg [m 10 8,m 5 10] false
@[simp]def e87_4:=rgF x87_4 rfl
def x87_5:EC:=.rg [m 11 1,m 12 0,m 13 5,o 14 (.iaS 1) [t 12, t 13],o 15 (.load 1 false) [t 14],o 16 (.bin .eql) [t 11, t 15]] false
@[simp]def e87_5:=rgF x87_5 rfl
def x87_6:EC:=.rg [m 17 5,m 4 17] false
@[simp]def e87_6:=rgF x87_6 rfl
def x87_7:EC:=.cd (t 16) (seqs [x87_6,.rt]) .skip
@[simp]def e87_7:=cdF x87_7 rfl
def x87_8:EC:=.bk 1 (seqs [x87_4,x87_5,x87_7])
@[simp]def e87_8:=bkF x87_8 rfl
def x87_9:EC:=.rg [o 18 (.bin .add) [t 8, i 1],m 8 18] false
@[simp]def e87_9:=rgF x87_9 rfl
def x87_10:EC:=.bk 0 (.lp (seqs [x87_2,x87_3,x87_8,x87_9]))
@[simp]def e87_10:=bkF x87_10 rfl
def x87_11:EC:=.rg [o 4 .mv [i (-1)]] false
@[simp]def e87_11:=rgF x87_11 rfl
def c_slices_Index___string_string__87 : EC := (seqs [x87_0,(seqs [x87_1,x87_10]),x87_11,.rt])
theorem k_87 : ecF Tryd.prog 87 = some (19, c_slices_Index___string_string__87, [.tm 4]) := by kernel_rfl

/-- strings.FieldsFunc -/
def x88_0:EC:=.rg [o 4 .mv [c (.snil)]] false
@[simp]def e88_0:=rgF x88_0 rfl
def x88_1:EC:=.rg [o 12 (.mks 171 2 16 [.t (.int .i64 0), .t (.int .i64 0)]) [i 0, i 32],m 5 12] false
@[simp]def e88_1:=rgF x88_1 rfl
def x88_2:EC:=.rg [o 6 .mv [i (-1)]] false
@[simp]def e88_2:=rgF x88_2 rfl
def x88_3:EC:=.rg [m 13 0,o 14 .rngS [t 13]] false
@[simp]def e88_3:=rgF x88_3 rfl
def x88_4:EC:=.rg [o 15 .nxtS [t 14],o 16 (.ext 0) [t 15]] false
@[simp]def e88_4:=rgF x88_4 rfl
def x88_5:EC:=.cd (t 16) .skip (.ex 0)
@[simp]def e88_5:=cdF x88_5 rfl
def x88_6:EC:=.rg [o 17 (.ext 1) [t 15],o 18 (.ext 2) [t 15],m 7 17,m 8 18] false
@[simp]def e88_6:=rgF x88_6 rfl
def x88_7:EC:=.rg [m 19 1,m 20 8,o 21 .callv [t 19, t 20]] false
@[simp]def e88_7:=rgF x88_7 rfl
def x88_8:EC:=.rg [m 22 6,o 23 (.bin .geq) [t 22, i 0]] false
@[simp]def e88_8:=rgF x88_8 rfl
def x88_9:EC:=.rg [m 24 5,m 25 6,m 26 7,o 27 (.build [.t (.int .i64 0), .t (.int .i64 0)] [(0, 1), (1, 1)]) [t 25, t 26],o 28 (.bsl 2) [t 27],o 29 (.app 171 2 16) [t 24, t 28],m 5 29] false
@[simp]def e88_9:=rgF x88_9 rfl
def x88_10:EC:=.rg [m 30 6,o 31 (.un .xor) [t 30],m 6 31] false
@[simp]def e88_10:=rgF x88_10 rfl
def x88_11:EC:=.cd (t 23) (seqs [x88_9,x88_10]) .skip
@[simp]def e88_11:=cdF x88_11 rfl
def x88_12:EC:=.rg [m 32 6,o 33 (.bin .lss) [t 32, i 0]] false
@[simp]def e88_12:=rgF x88_12 rfl
def x88_13:EC:=.rg [m 34 7,m 6 34] false
@[simp]def e88_13:=rgF x88_13 rfl
def x88_14:EC:=.cd (t 33) x88_13 .skip
@[simp]def e88_14:=cdF x88_14 rfl
def x88_15:EC:=.cd (t 21) (seqs [x88_8,x88_11]) (seqs [x88_12,x88_14])
@[simp]def e88_15:=cdF x88_15 rfl
def x88_16:EC:=.bk 1 (seqs [x88_6,x88_7,x88_15])
@[simp]def e88_16:=bkF x88_16 rfl
def x88_17:EC:=.bk 0 (.lp (seqs [x88_4,x88_5,x88_16]))
@[simp]def e88_17:=bkF x88_17 rfl
def x88_18:EC:=.rg [m 35 6,o 36 (.bin .geq) [t 35, i 0]] false
@[simp]def e88_18:=rgF x88_18 rfl
def x88_19:EC:=.rg [m 37 5,m 38 6,m 39 0,o 40 .lenS [t 39],o 41 (.build [.t (.int .i64 0), .t (.int .i64 0)] [(0, 1), (1, 1)]) [t 38, t 40],o 42 (.bsl 2) [t 41],o 43 (.app 171 2 16) [t 37, t 42],m 5 43] false
@[simp]def e88_19:=rgF x88_19 rfl
def x88_20:EC:=.cd (t 36) x88_19 .skip
@[simp]def e88_20:=cdF x88_20 rfl
def x88_21:EC:=.rg [m 44 5,o 45 .lenL [t 44],o 46 (.mks 9 1 16 [.t (.str [])]) [t 45, t 45],m 9 46] false
@[simp]def e88_21:=rgF x88_21 rfl
def x88_22:EC:=.rg [m 47 5,o 48 .lenL [t 47],o 49 .mv [i 0]] false
@[simp]def e88_22:=rgF x88_22 rfl
def x88_23:EC:=.rg [o 50 (.bin .lss) [t 49, t 48]] false
@[simp]def e88_23:=rgF x88_23 rfl
def x88_24:EC:=.cd (t 50) .skip (.ex 2)
@[simp]def e88_24:=cdF x88_24 rfl
def x88_25:EC:=.rg [m 51 49,o 52 (.iaS 2) [t 47, t 49],o 53 (.load 2 true) [t 52],o 11 (.alloc [.t (.int .i64 0), .t (.int .i64 0)]) [],m 10 51,u (.store 2) [t 11, t 53]] false
@[simp]def e88_25:=rgF x88_25 rfl
def x88_26:EC:=.rg [m 54 9,m 55 10,m 56 0,o 57 (.faddr 0) [t 11],o 58 (.load 1 false) [t 57],o 59 (.faddr 1) [t 11],o 60 (.load 1 false) [t 59],o 61 (.slS true true) [t 56, t 58, t 60],o 62 (.iaS 1) [t 54, t 55],u (.store 1) [t 62, t 61]] false
@[simp]def e88_26:=rgF x88_26 rfl
def x88_27:EC:=.bk 3 (seqs [x88_25,x88_26])
@[simp]def e88_27:=bkF x88_27 rfl
def x88_28:EC:=.rg [o 63 (.bin .add) [t 49, i 1],m 49 63] false
@[simp]def e88_28:=rgF x88_28 rfl
def x88_29:EC:=.bk 2 (.lp (seqs [x88_23,x88_24,x88_27,x88_28]))
@[simp]def e88_29:=bkF x88_29 rfl
def x88_30:EC:=.rg [m 64 9,m 4 64] false
@[simp]def e88_30:=rgF x88_30 rfl
def c_strings_FieldsFunc_88 : EC := (seqs [x88_0,x88_1,x88_2,(seqs [x88_3,x88_17]),(seqs [x88_18,x88_20]),x88_21,(seqs [x88_22,x88_29]),x88_30,.rt])
theorem k_88 : ecF Tryd.prog 88 = some (65, c_strings_FieldsFunc_88, [.tm 4]) := by kernel_rfl

/-- strings.FieldsFunc, with slices that grow in boxes -/
def xb88_0:EC:=.rg [o 4 .mv [c (.snil)]] false
@[simp]def eb88_0:=rgF xb88_0 rfl
def xb88_1:EC:=.rg [o 12 (.mks 171 2 16 [.t (.int .i64 0), .t (.int .i64 0)]) [i 0, i 32],m 5 12] false
@[simp]def eb88_1:=rgF xb88_1 rfl
def xb88_2:EC:=.rg [o 6 .mv [i (-1)]] false
@[simp]def eb88_2:=rgF xb88_2 rfl
def xb88_3:EC:=.rg [m 13 0,o 14 .rngS [t 13]] false
@[simp]def eb88_3:=rgF xb88_3 rfl
def xb88_4:EC:=.rg [o 15 .nxtS [t 14],o 16 (.ext 0) [t 15]] false
@[simp]def eb88_4:=rgF xb88_4 rfl
def xb88_5:EC:=.cd (t 16) .skip (.ex 0)
@[simp]def eb88_5:=cdF xb88_5 rfl
def xb88_6:EC:=.rg [o 17 (.ext 1) [t 15],o 18 (.ext 2) [t 15],m 7 17,m 8 18] false
@[simp]def eb88_6:=rgF xb88_6 rfl
def xb88_7:EC:=.rg [m 19 1,m 20 8,o 21 .callv [t 19, t 20]] false
@[simp]def eb88_7:=rgF xb88_7 rfl
def xb88_8:EC:=.rg [m 22 6,o 23 (.bin .geq) [t 22, i 0]] false
@[simp]def eb88_8:=rgF xb88_8 rfl
def xb88_9:EC:=.rg [m 24 5,m 25 6,m 26 7,o 27 (.build [.t (.int .i64 0), .t (.int .i64 0)] [(0, 1), (1, 1)]) [t 25, t 26],o 28 (.bsl 2) [t 27],o 29 (.appB 171 2 16) [t 24, t 28],m 5 29] false
@[simp]def eb88_9:=rgF xb88_9 rfl
def xb88_10:EC:=.rg [m 30 6,o 31 (.un .xor) [t 30],m 6 31] false
@[simp]def eb88_10:=rgF xb88_10 rfl
def xb88_11:EC:=.cd (t 23) (seqs [xb88_9,xb88_10]) .skip
@[simp]def eb88_11:=cdF xb88_11 rfl
def xb88_12:EC:=.rg [m 32 6,o 33 (.bin .lss) [t 32, i 0]] false
@[simp]def eb88_12:=rgF xb88_12 rfl
def xb88_13:EC:=.rg [m 34 7,m 6 34] false
@[simp]def eb88_13:=rgF xb88_13 rfl
def xb88_14:EC:=.cd (t 33) xb88_13 .skip
@[simp]def eb88_14:=cdF xb88_14 rfl
def xb88_15:EC:=.cd (t 21) (seqs [xb88_8,xb88_11]) (seqs [xb88_12,xb88_14])
@[simp]def eb88_15:=cdF xb88_15 rfl
def xb88_16:EC:=.bk 1 (seqs [xb88_6,xb88_7,xb88_15])
@[simp]def eb88_16:=bkF xb88_16 rfl
def xb88_17:EC:=.bk 0 (.lp (seqs [xb88_4,xb88_5,xb88_16]))
@[simp]def eb88_17:=bkF xb88_17 rfl
def xb88_18:EC:=.rg [m 35 6,o 36 (.bin .geq) [t 35, i 0]] false
@[simp]def eb88_18:=rgF xb88_18 rfl
def xb88_19:EC:=.rg [m 37 5,m 38 6,m 39 0,o 40 .lenS [t 39],o 41 (.build [.t (.int .i64 0), .t (.int .i64 0)] [(0, 1), (1, 1)]) [t 38, t 40],o 42 (.bsl 2) [t 41],o 43 (.appB 171 2 16) [t 37, t 42],m 5 43] false
@[simp]def eb88_19:=rgF xb88_19 rfl
def xb88_20:EC:=.cd (t 36) xb88_19 .skip
@[simp]def eb88_20:=cdF xb88_20 rfl
def xb88_21:EC:=.rg [m 44 5,o 45 .lenL [t 44],o 46 (.mks 9 1 16 [.t (.str [])]) [t 45, t 45],m 9 46] false
@[simp]def eb88_21:=rgF xb88_21 rfl
def xb88_22:EC:=.rg [m 47 5,o 48 .lenL [t 47],o 49 .mv [i 0]] false
@[simp]def eb88_22:=rgF xb88_22 rfl
def xb88_23:EC:=.rg [o 50 (.bin .lss) [t 49, t 48]] false
@[simp]def eb88_23:=rgF xb88_23 rfl
def xb88_24:EC:=.cd (t 50) .skip (.ex 2)
@[simp]def eb88_24:=cdF xb88_24 rfl
def xb88_25:EC:=.rg [m 51 49,o 52 (.iaS 2) [t 47, t 49],o 53 (.load 2 true) [t 52],o 11 (.alloc [.t (.int .i64 0), .t (.int .i64 0)]) [],m 10 51,u (.store 2) [t 11, t 53]] false
@[simp]def eb88_25:=rgF xb88_25 rfl
def xb88_26:EC:=.rg [m 54 9,m 55 10,m 56 0,o 57 (.faddr 0) [t 11],o 58 (.load 1 false) [t 57],o 59 (.faddr 1) [t 11],o 60 (.load 1 false) [t 59],o 61 (.slS true true) [t 56, t 58, t 60],o 62 (.iaS 1) [t 54, t 55],u (.store 1) [t 62, t 61]] false
@[simp]def eb88_26:=rgF xb88_26 rfl
def xb88_27:EC:=.bk 3 (seqs [xb88_25,xb88_26])
@[simp]def eb88_27:=bkF xb88_27 rfl
def xb88_28:EC:=.rg [o 63 (.bin .add) [t 49, i 1],m 49 63] false
@[simp]def eb88_28:=rgF xb88_28 rfl
def xb88_29:EC:=.bk 2 (.lp (seqs [xb88_23,xb88_24,xb88_27,xb88_28]))
@[simp]def eb88_29:=bkF xb88_29 rfl
def xb88_30:EC:=.rg [m 64 9,m 4 64] false
@[simp]def eb88_30:=rgF xb88_30 rfl
def b_strings_FieldsFunc_88 : EC := (seqs [xb88_0,xb88_1,xb88_2,(seqs [xb88_3,xb88_17]),(seqs [xb88_18,xb88_20]),xb88_21,(seqs [xb88_22,xb88_29]),xb88_30,.rt])
theorem kb_88 : ecB Tryd.prog 88 = some (65, b_strings_FieldsFunc_88, [.tm 4]) := by kernel_rfl

/-- internal/stringslite.IndexByte -/
def x90_0:EC:=.rg [o 4 .mv [i 0]] false
@[simp]def e90_0:=rgF x90_0 rfl
def x90_1:EC:=.rg [m 5 0,m 6 1,o 7 (.call 92) [t 5, t 6],m 4 7] false
@[simp]def e90_1:=rgF x90_1 rfl
def c_stringslite_IndexByte_90 : EC := (seqs [x90_0,x90_1,.rt])
theorem k_90 : ecF Tryd.prog 90 = some (8, c_stringslite_IndexByte_90, [.tm 4]) := by kernel_rfl

/-- unicode.isExcludingLatin -/
def x91_0:EC:=.rg [o 4 .mv [b false]] false
@[simp]def e91_0:=rgF x91_0 rfl
def x91_1:EC:=.rg [m 8 0,o 9 .nilc [t 8],o 10 (.faddr 0) [t 9],o 11 (.load 1 false) [t 10],m 5 11] false
@[simp]def e91_1:=rgF x91_1 rfl
def x91_2:EC:=.rg [m 12 0,o 13 .nilc [t 12],o 14 (.faddr 2) [t 13],o 15 (.load 1 false) [t 14],m 6 15] false
@[simp]def e91_2:=rgF x91_2 rfl
def x91_3:EC:=.rg [m 16 5,o 17 .lenL [t 16],m 18 6,o 19 (.bin .gtr) [t 17, t 18],m 20 19,y 21 20 .mv [t 1],y 22 20 (.cvI .u32) [t 21],y 23 20 .mv [t 5],y 24 20 .mv [t 5],y 25 20 .lenL [t 24],y 26 20 (.bin .sub) [t 25, i 1],y 27 20 (.iaS 3) [t 23, t 26],y 28 20 (.faddr 1) [t 27],y 29 20 (.load 1 false) [t 28],y 30 20 (.cvI .u32) [t 29],y 31 20 (.bin .leq) [t 22, t 30],o 32 .pick [t 20, t 31, b false]] false
@[simp]def e91_3:=rgF x91_3 rfl
def x91_4:EC:=.rg [m 33 5,m 34 6,o 35 (.slL 3 true false false) [t 33, t 34],m 36 1,o 37 (.cvI .u16) [t 36],o 38 (.call 93) [t 35, t 37],m 4 38] false
@[simp]def e91_4:=rgF x91_4 rfl
def x91_5:EC:=.cd (t 32) (seqs [x91_4,.rt]) .skip
@[simp]def e91_5:=cdF x91_5 rfl
def x91_6:EC:=.rg [m 39 0,o 40 .nilc [t 39],o 41 (.faddr 1) [t 40],o 42 (.load 1 false) [t 41],m 7 42] false
@[simp]def e91_6:=rgF x91_6 rfl
def x91_7:EC:=.rg [m 43 7,o 44 .lenL [t 43],o 45 (.bin .gtr) [t 44, i 0],m 46 45,y 47 46 .mv [t 1],y 48 46 .mv [t 7],y 49 46 (.iaS 3) [t 48, i 0],y 50 46 (.faddr 0) [t 49],y 51 46 (.load 1 false) [t 50],y 52 46 (.cvI .i32) [t 51],y 53 46 (.bin .geq) [t 47, t 52],o 54 .pick [t 46, t 53, b false]] false
@[simp]def e91_7:=rgF x91_7 rfl
def x91_8:EC:=.rg [m 55 7,m 56 1,o 57 (.cvI .u32) [t 56],o 58 (.call 94) [t 55, t 57],m 4 58] false
@[simp]def e91_8:=rgF x91_8 rfl
def x91_9:EC:=.cd (t 54) (seqs [x91_8,.rt]) .skip
@[simp]def e91_9:=cdF x91_9 rfl
def x91_10:EC:=.rg [o 4 .mv [b false]] false
@[simp]def e91_10:=rgF x91_10 rfl
def c_unicode_isExcludingLatin_91 : EC := (seqs [x91_0,x91_1,(seqs [x91_2,x91_3,x91_5]),x91_6,(seqs [x91_7,x91_9]),x91_10,.rt])
theorem k_91 : ecF Tryd.prog 91 = some (59, c_unicode_isExcludingLatin_91, [.tm 4]) := by kernel_rfl
end Go.Proofs.YtckffbklaepmpaaDoor
