/- The code of the functions of this seat, as the engine reads it; printed by program out of the translation, checked by the kernel. -/
import Derived.Test.YtnlkppaehbopaaaDoorEe
import Derived.Test.YtnlkppaehbopaaaDoorProg
set_option linter.unusedSimpArgs false
set_option linter.unusedVariables false
set_option linter.defProp false
namespace Go.Proofs.YtnlkppaehbopaaaDoor
open Go.Proofs E E.Z
variable {P : Program} {nb nt : Nat} {Q : Ex → Fr → St → Prop} {a : Fr} {S : St}
/-- tallystone/syntax.proper -/
def x68_0:EC:=.rg [o 1 .box [t 0],o 2 .mv [b false]] false
@[simp]def e68_0:=rgF x68_0 rfl
def x68_1:EC:=.rg [o 5 (.faddr 0) [t 1],o 6 (.load 1 false) [t 5],o 7 (.build [.t (.int .i64 0), .t (.int .i64 0), .t (.int .i64 0), .t (.int .i64 0), .t (.str []), .snil] [(0, 1)]) [t 6],o 3 (.alloc [.t (.int .i64 0), .t (.int .i64 0), .t (.int .i64 0), .t (.int .i64 0), .t (.str []), .snil]) [],u (.store 6) [t 3, t 7]] false
@[simp]def e68_1:=rgF x68_1 rfl
def x68_2:EC:=.rg [o 8 (.faddr 0) [t 1],o 9 (.load 1 false) [t 8],o 10 (.bin .geq) [t 9, i 1],m 11 10,y 12 11 (.faddr 0) [t 1],y 13 11 (.load 1 false) [t 12],y 14 11 (.bin .leq) [t 13, i 22],o 15 .pick [t 11, t 14, b false],m 16 15,y 17 16 (.faddr 5) [t 1],y 18 16 (.load 1 false) [t 17],y 19 16 .lenL [t 18],y 20 16 (.faddr 0) [t 1],y 21 16 (.load 1 false) [t 20],y 22 16 (.call 88) [t 21],y 23 16 (.bin .eql) [t 19, t 22],o 24 .pick [t 16, t 23, b false],m 4 24] true
@[simp]def e68_2:=rgF x68_2 rfl
def x68_3:EC:=.rg [o 25 (.faddr 0) [t 1],o 26 (.load 1 false) [t 25]] false
@[simp]def e68_3:=rgF x68_3 rfl
def x68_4:EC:=.rg [o 28 (.bin .eql) [t 26, i 1],m 27 28] false
@[simp]def e68_4:=rgF x68_4 rfl
def x68_5:EC:=.rg [o 29 (.faddr 1) [t 1],o 30 (.load 1 false) [t 29],o 31 (.faddr 1) [t 3],u (.store 1) [t 31, t 30]] false
@[simp]def e68_5:=rgF x68_5 rfl
def x68_6:EC:=.rg [m 32 4,m 33 32,y 34 33 (.faddr 1) [t 1],y 35 33 (.load 1 false) [t 34],y 36 33 (.bin .geq) [t 35, i 0],o 37 .pick [t 33, t 36, b false],m 38 37,y 39 38 (.faddr 1) [t 1],y 40 38 (.load 1 false) [t 39],y 41 38 (.bin .leq) [t 40, i 1000000000000],o 42 .pick [t 38, t 41, b false],m 4 42] false
@[simp]def e68_6:=rgF x68_6 rfl
def x68_7:EC:=.rg [o 44 (.bin .eql) [t 26, i 2],m 43 44] false
@[simp]def e68_7:=rgF x68_7 rfl
def x68_8:EC:=.rg [o 45 (.faddr 4) [t 1],o 46 (.load 1 false) [t 45],o 47 (.faddr 4) [t 3],u (.store 1) [t 47, t 46]] false
@[simp]def e68_8:=rgF x68_8 rfl
def x68_9:EC:=.rg [m 48 4,m 49 48,y 50 49 (.faddr 4) [t 1],y 51 49 (.load 1 false) [t 50],y 52 49 (.call 44) [t 51],o 53 .pick [t 49, t 52, b false],m 4 53] false
@[simp]def e68_9:=rgF x68_9 rfl
def x68_10:EC:=.rg [o 55 (.bin .eql) [t 26, i 20],m 54 55] false
@[simp]def e68_10:=rgF x68_10 rfl
def x68_11:EC:=.rg [o 56 (.faddr 1) [t 1],o 57 (.load 1 false) [t 56],o 58 (.faddr 1) [t 3],u (.store 1) [t 58, t 57]] false
@[simp]def e68_11:=rgF x68_11 rfl
def x68_12:EC:=.rg [m 59 4,m 60 59,y 61 60 (.faddr 1) [t 1],y 62 60 (.load 1 false) [t 61],y 63 60 (.bin .geq) [t 62, i 1],o 64 .pick [t 60, t 63, b false],m 65 64,y 66 65 (.faddr 1) [t 1],y 67 65 (.load 1 false) [t 66],y 68 65 (.bin .leq) [t 67, i 1000000000000],o 69 .pick [t 65, t 68, b false],m 4 69] false
@[simp]def e68_12:=rgF x68_12 rfl
def x68_13:EC:=.rg [o 71 (.bin .eql) [t 26, i 21],m 70 71] false
@[simp]def e68_13:=rgF x68_13 rfl
def x68_14:EC:=.rg [o 72 (.bin .eql) [t 26, i 22],m 70 72] false
@[simp]def e68_14:=rgF x68_14 rfl
def x68_15:EC:=.cd (t 70) .skip x68_14
@[simp]def e68_15:=cdF x68_15 rfl
def x68_16:EC:=.rg [o 73 (.faddr 2) [t 1]] true
@[simp]def e68_16:=rgF x68_16 rfl
def x68_17:EC:=.rg [o 74 (.load 1 false) [t 73]] true
@[simp]def e68_17:=rgF x68_17 rfl
def x68_18:EC:=.rg [o 75 (.faddr 3) [t 1]] true
@[simp]def e68_18:=rgF x68_18 rfl
def x68_19:EC:=.rg [o 77 (.faddr 2) [t 3]] true
@[simp]def e68_19:=rgF x68_19 rfl
def x68_20:EC:=.rg [o 76 (.load 1 false) [t 75]] true
@[simp]def e68_20:=rgF x68_20 rfl
def x68_21:EC:=.rg [u (.store 1) [t 77, t 74]] true
@[simp]def e68_21:=rgF x68_21 rfl
def x68_22:EC:=.rg [o 78 (.faddr 3) [t 3]] true
@[simp]def e68_22:=rgF x68_22 rfl
def x68_23:EC:=.rg [u (.store 1) [t 78, t 76]] true
@[simp]def e68_23:=rgF x68_23 rfl
def x68_24:EC:=.rg [u (.store 1) [t 77, t 74]] true
@[simp]def e68_24:=rgF x68_24 rfl
def x68_25:EC:=.rg [o 76 (.load 1 false) [t 75]] true
@[simp]def e68_25:=rgF x68_25 rfl
def x68_26:EC:=.rg [o 78 (.faddr 3) [t 3]] true
@[simp]def e68_26:=rgF x68_26 rfl
def x68_27:EC:=.rg [u (.store 1) [t 78, t 76]] true
@[simp]def e68_27:=rgF x68_27 rfl
def x68_28:EC:=.al (seqs [x68_20,x68_21,x68_22,x68_23,.skip]) (seqs [x68_24,x68_25,x68_26,x68_27,.skip])
@[simp]def e68_28:=alF x68_28 rfl
def x68_29:EC:=.rg [m 79 4,m 80 79,y 81 80 (.faddr 2) [t 1],y 82 80 (.load 1 false) [t 81],y 83 80 (.call 45) [t 82],o 84 .pick [t 80, t 83, b false],m 85 84,y 86 85 (.faddr 3) [t 1],y 87 85 (.load 1 false) [t 86],y 88 85 (.call 45) [t 87],o 89 .pick [t 85, t 88, b false],m 4 89] false
@[simp]def e68_29:=rgF x68_29 rfl
def x68_30:EC:=.cd (t 70) (seqs [(seqs [x68_16,x68_17,x68_18,x68_19,x68_28]),x68_29]) .skip
@[simp]def e68_30:=cdF x68_30 rfl
def x68_31:EC:=.cd (t 54) (seqs [x68_11,x68_12]) (seqs [(seqs [x68_13,x68_15]),x68_30])
@[simp]def e68_31:=cdF x68_31 rfl
def x68_32:EC:=.cd (t 43) (seqs [x68_8,x68_9]) (seqs [x68_10,x68_31])
@[simp]def e68_32:=cdF x68_32 rfl
def x68_33:EC:=.cd (t 27) (seqs [x68_5,x68_6]) (seqs [x68_7,x68_32])
@[simp]def e68_33:=cdF x68_33 rfl
def x68_34:EC:=.bk 0 (seqs [x68_4,x68_33])
@[simp]def e68_34:=bkF x68_34 rfl
def x68_35:EC:=.rg [m 90 4,m 91 90,y 92 91 (.faddr 1) [t 1],y 93 91 (.load 1 false) [t 92],y 94 91 (.faddr 1) [t 3],y 95 91 (.load 1 false) [t 94],y 96 91 (.bin .eql) [t 93, t 95],o 97 .pick [t 91, t 96, b false],m 98 97,y 99 98 (.faddr 2) [t 1],y 100 98 (.load 1 false) [t 99],y 101 98 (.faddr 2) [t 3],y 102 98 (.load 1 false) [t 101],y 103 98 (.bin .eql) [t 100, t 102],o 104 .pick [t 98, t 103, b false],m 105 104,y 106 105 (.faddr 3) [t 1],y 107 105 (.load 1 false) [t 106],y 108 105 (.faddr 3) [t 3],y 109 105 (.load 1 false) [t 108],y 110 105 (.bin .eql) [t 107, t 109],o 111 .pick [t 105, t 110, b false],m 112 111,y 113 112 (.faddr 4) [t 1],y 114 112 (.load 1 false) [t 113],y 115 112 (.faddr 4) [t 3],y 116 112 (.load 1 false) [t 115],y 117 112 (.bin .eql) [t 114, t 116],o 118 .pick [t 112, t 117, b false],m 119 118,y 120 119 (.faddr 5) [t 1],y 121 119 (.load 1 false) [t 120],y 122 119 (.call 63) [t 121, c (.fn (.func 89) [])],y 123 119 (.un .not) [t 122],o 124 .pick [t 119, t 123, b false],m 2 124] false
@[simp]def e68_35:=rgF x68_35 rfl
def c_syntax_proper_68 : EC := (seqs [x68_0,x68_1,x68_2,(seqs [x68_3,x68_34]),x68_35,.rt])
theorem k_68 : ecF Tryd.prog 68 = some (125, c_syntax_proper_68, [.tm 2]) := by kernel_rfl

/-- tallystone/tallystoneref31.Keyword -/
def x69_0:EC:=.rg [o 2 .mv [b false]] false
@[simp]def e69_0:=rgF x69_0 rfl
def x69_1:EC:=.rg [o 3 (.bsl 1) [c (.t (.str [114, 117, 108, 101])), c (.t (.str [101, 97, 99, 104])), c (.t (.str [101, 110, 116, 105, 116, 121])), c (.t (.str [112, 97, 105, 114])), c (.t (.str [108, 101, 116])), c (.t (.str [114, 101, 113, 117, 105, 114, 101])), c (.t (.str [112, 111, 115, 116])), c (.t (.str [116, 111])), c (.t (.str [112, 101, 114])), c (.t (.str [97, 110, 100])), c (.t (.str [111, 114])), c (.t (.str [110, 111, 116])), c (.t (.str [109, 105, 110])), c (.t (.str [109, 97, 120])), c (.t (.str [97, 98, 115])), c (.t (.str [98, 97, 108, 97, 110, 99, 101])), c (.t (.str [112, 97, 114, 116, 110, 101, 114])), c (.t (.str [115, 104, 97, 114, 101]))],m 4 0,o 5 (.call 31) [t 3, t 4],m 2 5] false
@[simp]def e69_1:=rgF x69_1 rfl
def c_tallystoneref31_Keyword_69 : EC := (seqs [x69_0,x69_1,.rt])
theorem k_69 : ecF Tryd.prog 69 = some (6, c_tallystoneref31_Keyword_69, [.tm 2]) := by kernel_rfl

/-- tallystone/tallystoneref32.args -/
def x70_0:EC:=.rg [o 2 .mv [i 0]] false
@[simp]def e70_0:=rgF x70_0 rfl
def x70_1:EC:=.rg [m 4 0,o 5 (.bin .eql) [t 4, i 1],m 6 5,n 7 6 .mv [t 0],n 8 6 (.bin .eql) [t 7, i 2],o 9 .pick [t 6, b true, t 8],m 10 9,n 11 10 .mv [t 0],n 12 10 (.bin .eql) [t 11, i 21],o 13 .pick [t 10, b true, t 12],m 14 13,n 15 14 .mv [t 0],n 16 14 (.bin .eql) [t 15, i 22],o 17 .pick [t 14, b true, t 16],m 3 17] false
@[simp]def e70_1:=rgF x70_1 rfl
def x70_2:EC:=.rg [o 2 .mv [i 0]] false
@[simp]def e70_2:=rgF x70_2 rfl
def x70_3:EC:=.rg [m 19 0,o 20 (.bin .geq) [t 19, i 3],m 21 20,y 22 21 .mv [t 0],y 23 21 (.bin .leq) [t 22, i 6],o 24 .pick [t 21, t 23, b false],m 25 24,n 26 25 .mv [t 0],n 27 25 (.bin .eql) [t 26, i 20],o 28 .pick [t 25, b true, t 27],m 18 28] false
@[simp]def e70_3:=rgF x70_3 rfl
def x70_4:EC:=.rg [o 2 .mv [i 1]] false
@[simp]def e70_4:=rgF x70_4 rfl
def x70_5:EC:=.rg [m 30 0,o 31 (.bin .geq) [t 30, i 7],m 32 31,y 33 32 .mv [t 0],y 34 32 (.bin .leq) [t 33, i 19],o 35 .pick [t 32, t 34, b false],m 29 35] false
@[simp]def e70_5:=rgF x70_5 rfl
def x70_6:EC:=.rg [o 2 .mv [i 2]] false
@[simp]def e70_6:=rgF x70_6 rfl
def x70_7:EC:=.cd (t 29) (seqs [x70_6,.rt]) .skip
@[simp]def e70_7:=cdF x70_7 rfl
def x70_8:EC:=.cd (t 18) (seqs [x70_4,.rt]) (seqs [x70_5,x70_7])
@[simp]def e70_8:=cdF x70_8 rfl
def x70_9:EC:=.cd (t 3) (seqs [x70_2,.rt]) (seqs [x70_3,x70_8])
@[simp]def e70_9:=cdF x70_9 rfl
def x70_10:EC:=.bk 0 (seqs [x70_1,x70_9])
@[simp]def e70_10:=bkF x70_10 rfl
def x70_11:EC:=.rg [o 2 .mv [i (-1)]] false
@[simp]def e70_11:=rgF x70_11 rfl
def c_tallystoneref32_args_70 : EC := (seqs [x70_0,x70_10,x70_11,.rt])
theorem k_70 : ecF Tryd.prog 70 = some (36, c_tallystoneref32_args_70, [.tm 2]) := by kernel_rfl

/-- tallystone/chart.Find -/
def x71_0:EC:=.rg [o 4 (.alloc [.t (.int .i64 0), .t (.int .i64 0), .t (.int .i64 0), .t (.int .i64 0)]) [],o 5 .mv [b false]] false
@[simp]def e71_0:=rgF x71_0 rfl
def x71_1:EC:=.rg [m 8 0,o 9 .lenL [t 8],o 10 .mv [i 0]] false
@[simp]def e71_1:=rgF x71_1 rfl
def x71_2:EC:=.rg [o 11 (.bin .lss) [t 10, t 9]] false
@[simp]def e71_2:=rgF x71_2 rfl
def x71_3:EC:=.cd (t 11) .skip (.ex 0)
@[simp]def e71_3:=cdF x71_3 rfl
def x71_4:EC:=.rg [o 12 (.iaS 4) [t 8, t 10],o 13 (.load 4 true) [t 12],o 7 (.alloc [.t (.int .i64 0), .t (.int .i64 0), .t (.int .i64 0), .t (.int .i64 0)]) [],u (.store 4) [t 7, t 13]] false
@[simp]def e71_4:=rgF x71_4 rfl
def x71_5:EC:=.rg [o 14 (.faddr 0) [t 7],o 15 (.load 1 false) [t 14],m 16 1,o 17 (.bin .eql) [t 15, t 16]] false
@[simp]def e71_5:=rgF x71_5 rfl
def x71_6:EC:=.rg [o 18 (.load 4 true) [t 7],u (.store 4) [t 4, t 18],o 5 .mv [b true]] false
@[simp]def e71_6:=rgF x71_6 rfl
def x71_7:EC:=.cd (t 17) (seqs [x71_6,.rt]) .skip
@[simp]def e71_7:=cdF x71_7 rfl
def x71_8:EC:=.bk 1 (seqs [x71_4,x71_5,x71_7])
@[simp]def e71_8:=bkF x71_8 rfl
def x71_9:EC:=.rg [o 19 (.bin .add) [t 10, i 1],m 10 19] false
@[simp]def e71_9:=rgF x71_9 rfl
def x71_10:EC:=.bk 0 (.lp (seqs [x71_2,x71_3,x71_8,x71_9]))
@[simp]def e71_10:=bkF x71_10 rfl
def x71_11:EC:=.rg [o 20 (.build [.t (.int .i64 0), .t (.int .i64 0), .t (.int .i64 0), .t (.int .i64 0)] []) [],u (.store 4) [t 4, t 20],o 5 .mv [b false]] false
@[simp]def e71_11:=rgF x71_11 rfl
def c_chart_Find_71 : EC := (seqs [x71_0,(seqs [x71_1,x71_10]),x71_11,.rt])
theorem k_71 : ecF Tryd.prog 71 = some (21, c_chart_Find_71, [.ce 4 4 true, .tm 5]) := by kernel_rfl

/-- tallystone/chart.climb -/
def x72_0:EC:=.rg [o 4 .mv [c (.snil)]] false
@[simp]def e72_0:=rgF x72_0 rfl
def x72_1:EC:=.rg [o 5 .mv [c (.snil)]] false
@[simp]def e72_1:=rgF x72_1 rfl
def x72_2:EC:=.rg [o 9 .mkmap [],m 6 9] false
@[simp]def e72_2:=rgF x72_2 rfl
def x72_3:EC:=.rg [m 11 0,m 12 1,o 13 (.call 71) [t 11, t 12],m 10 13,o 14 (.ext 0) [t 10],o 15 (.ext 1) [t 10],o 7 (.alloc [.t (.int .i64 0), .t (.int .i64 0), .t (.int .i64 0), .t (.int .i64 0)]) [],u (.store 4) [t 7, t 14],m 8 15] false
@[simp]def e72_3:=rgF x72_3 rfl
def x72_4:EC:=.rg [m 16 8,o 17 (.un .not) [t 16],m 18 17,n 19 18 .mv [t 6],n 20 18 .mv [t 1],n 21 18 (.lkp false [1] false false [.t (.bool false)]) [t 19, t 20],o 22 .pick [t 18, b true, t 21]] false
@[simp]def e72_4:=rgF x72_4 rfl
def x72_5:EC:=.cd (t 22) (.ex 0) .skip
@[simp]def e72_5:=cdF x72_5 rfl
def x72_6:EC:=.rg [m 23 6,m 24 1,u (.mup false [1]) [t 23, t 24, b true]] false
@[simp]def e72_6:=rgF x72_6 rfl
def x72_7:EC:=.rg [m 25 5,m 26 1,o 27 (.bsl 1) [t 26],o 28 (.app 3 1 8) [t 25, t 27],m 5 28] false
@[simp]def e72_7:=rgF x72_7 rfl
def x72_8:EC:=.rg [o 29 (.faddr 3) [t 7],o 30 (.load 1 false) [t 29],m 1 30] false
@[simp]def e72_8:=rgF x72_8 rfl
def x72_9:EC:=.bk 1 (seqs [x72_3,(seqs [x72_4,x72_5]),x72_6,x72_7,x72_8])
@[simp]def e72_9:=bkF x72_9 rfl
def x72_10:EC:=.bk 0 (.lp x72_9)
@[simp]def e72_10:=bkF x72_10 rfl
def x72_11:EC:=.rg [m 31 5,m 4 31] false
@[simp]def e72_11:=rgF x72_11 rfl
def c_chart_climb_72 : EC := (seqs [x72_0,x72_1,x72_2,.skip,x72_10,x72_11,.rt])
theorem k_72 : ecF Tryd.prog 72 = some (32, c_chart_climb_72, [.tm 4]) := by kernel_rfl

/-- tallystone/chart.climb, with slices that grow in boxes -/
def xb72_0:EC:=.rg [o 4 .mv [c (.snil)]] false
@[simp]def eb72_0:=rgF xb72_0 rfl
def xb72_1:EC:=.rg [o 5 .mv [c (.snil)]] false
@[simp]def eb72_1:=rgF xb72_1 rfl
def xb72_2:EC:=.rg [o 9 .mkmap [],m 6 9] false
@[simp]def eb72_2:=rgF xb72_2 rfl
def xb72_3:EC:=.rg [m 11 0,m 12 1,o 13 (.call 71) [t 11, t 12],m 10 13,o 14 (.ext 0) [t 10],o 15 (.ext 1) [t 10],o 7 (.alloc [.t (.int .i64 0), .t (.int .i64 0), .t (.int .i64 0), .t (.int .i64 0)]) [],u (.store 4) [t 7, t 14],m 8 15] false
@[simp]def eb72_3:=rgF xb72_3 rfl
def xb72_4:EC:=.rg [m 16 8,o 17 (.un .not) [t 16],m 18 17,n 19 18 .mv [t 6],n 20 18 .mv [t 1],n 21 18 (.lkp false [1] false false [.t (.bool false)]) [t 19, t 20],o 22 .pick [t 18, b true, t 21]] false
@[simp]def eb72_4:=rgF xb72_4 rfl
def xb72_5:EC:=.cd (t 22) (.ex 0) .skip
@[simp]def eb72_5:=cdF xb72_5 rfl
def xb72_6:EC:=.rg [m 23 6,m 24 1,u (.mup false [1]) [t 23, t 24, b true]] false
@[simp]def eb72_6:=rgF xb72_6 rfl
def xb72_7:EC:=.rg [m 25 5,m 26 1,o 27 (.bsl 1) [t 26],o 28 (.appB 3 1 8) [t 25, t 27],m 5 28] false
@[simp]def eb72_7:=rgF xb72_7 rfl
def xb72_8:EC:=.rg [o 29 (.faddr 3) [t 7],o 30 (.load 1 false) [t 29],m 1 30] false
@[simp]def eb72_8:=rgF xb72_8 rfl
def xb72_9:EC:=.bk 1 (seqs [xb72_3,(seqs [xb72_4,xb72_5]),xb72_6,xb72_7,xb72_8])
@[simp]def eb72_9:=bkF xb72_9 rfl
def xb72_10:EC:=.bk 0 (.lp xb72_9)
@[simp]def eb72_10:=bkF xb72_10 rfl
def xb72_11:EC:=.rg [m 31 5,m 4 31] false
@[simp]def eb72_11:=rgF xb72_11 rfl
def b_chart_climb_72 : EC := (seqs [xb72_0,xb72_1,xb72_2,.skip,xb72_10,xb72_11,.rt])
theorem kb_72 : ecB Tryd.prog 72 = some (32, b_chart_climb_72, [.tm 4]) := by kernel_rfl

/-- slices.insertionSortOrdered[int] -/
def x73_0:EC:=.rg [m 8 1,o 9 (.bin .add) [t 8, i 1],m 6 9] false
@[simp]def e73_0:=rgF x73_0 rfl
def x73_1:EC:=.rg [m 10 6,m 11 2,o 12 (.bin .lss) [t 10, t 11]] false
@[simp]def e73_1:=rgF x73_1 rfl
def x73_2:EC:=.cd (t 12) .skip (.ex 0)
@[simp]def e73_2:=cdF x73_2 rfl
def x73_3:EC:=.rg [m 15 6,m 7 15] false
@[simp]def e73_3:=rgF x73_3 rfl
def x73_4:EC:=.rg [m 16 7,m 17 1,o 18 (.bin .gtr) [t 16, t 17],m 19 18,y 20 19 .mv [t 0],y 21 19 .mv [t 7],y 22 19 (.iaS 1) [t 20, t 21],y 23 19 (.load 1 false) [t 22],y 24 19 .mv [t 0],y 25 19 .mv [t 7],y 26 19 (.bin .sub) [t 25, i 1],y 27 19 (.iaS 1) [t 24, t 26],y 28 19 (.load 1 false) [t 27],y 29 19 (.call 79) [t 23, t 28],o 30 .pick [t 19, t 29, b false]] true
@[simp]def e73_4:=rgF x73_4 rfl
def x73_5:EC:=.cd (t 30) .skip (.ex 2)
@[simp]def e73_5:=cdF x73_5 rfl
def x73_6:EC:=.rg [m 33 0,m 34 7,m 35 0,m 36 7,o 37 (.bin .sub) [t 36, i 1],m 38 0,m 39 7,o 40 (.bin .sub) [t 39, i 1],o 41 (.iaS 1) [t 38, t 40],o 42 (.load 1 false) [t 41],m 43 0,m 44 7,o 45 (.iaS 1) [t 43, t 44],o 46 (.load 1 false) [t 45],o 47 (.iaS 1) [t 33, t 34],u (.store 1) [t 47, t 42],o 48 (.iaS 1) [t 35, t 37],u (.store 1) [t 48, t 46]] true
@[simp]def e73_6:=rgF x73_6 rfl
def x73_7:EC:=.bk 3 x73_6
@[simp]def e73_7:=bkF x73_7 rfl
def x73_8:EC:=.rg [m 31 7,o 32 (.bin .sub) [t 31, i 1],m 7 32] false
@[simp]def e73_8:=rgF x73_8 rfl
def x73_9:EC:=.bk 2 (.lp (seqs [(seqs [x73_4,x73_5]),x73_7,x73_8]))
@[simp]def e73_9:=bkF x73_9 rfl
def x73_10:EC:=.bk 1 (seqs [x73_3,x73_9])
@[simp]def e73_10:=bkF x73_10 rfl
def x73_11:EC:=.rg [m 13 6,o 14 (.bin .add) [t 13, i 1],m 6 14] false
@[simp]def e73_11:=rgF x73_11 rfl
def x73_12:EC:=.bk 0 (.lp (seqs [(seqs [x73_1,x73_2]),x73_10,x73_11]))
@[simp]def e73_12:=bkF x73_12 rfl
def c_slices_insertionSortOrdered_int__73 : EC := (seqs [x73_0,x73_12])
theorem k_73 : ecF Tryd.prog 73 = some (49, c_slices_insertionSortOrdered_int__73, []) := by kernel_rfl

/-- slices.IndexFunc[[]tallystone/syntax.Expr,tallystone/syntax.Expr] -/
def x84_0:EC:=.rg [o 4 .mv [i 0]] false
@[simp]def e84_0:=rgF x84_0 rfl
def x84_1:EC:=.rg [m 6 0,o 7 .lenL [t 6],o 8 .mv [i 0]] false
@[simp]def e84_1:=rgF x84_1 rfl
def x84_2:EC:=.rg [o 9 (.bin .lss) [t 8, t 7]] false
@[simp]def e84_2:=rgF x84_2 rfl
def x84_3:EC:=.cd (t 9) .skip (.ex 0)
@[simp]def e84_3:=cdF x84_3 rfl
def x84_4:EC:=.rg [m 10 8,m 5 10] false
@[simp]def e84_4:=rgF x84_4 rfl
def x84_5:EC:=.rg [m 11 1,m 12 0,m 13 5,o 14 (.iaS 6) [t 12, t 13],o 15 (.load 6 true) [t 14],o 16 .callv [t 11, t 15]] false
@[simp]def e84_5:=rgF x84_5 rfl
def x84_6:EC:=.rg [m 17 5,m 4 17] false
@[simp]def e84_6:=rgF x84_6 rfl
def x84_7:EC:=.cd (t 16) (seqs [x84_6,.rt]) .skip
@[simp]def e84_7:=cdF x84_7 rfl
def x84_8:EC:=.bk 1 (seqs [x84_4,x84_5,x84_7])
@[simp]def e84_8:=bkF x84_8 rfl
def x84_9:EC:=.rg [o 18 (.bin .add) [t 8, i 1],m 8 18] false
@[simp]def e84_9:=rgF x84_9 rfl
def x84_10:EC:=.bk 0 (.lp (seqs [x84_2,x84_3,x84_8,x84_9]))
@[simp]def e84_10:=bkF x84_10 rfl
def x84_11:EC:=.rg [o 4 .mv [i (-1)]] false
@[simp]def e84_11:=rgF x84_11 rfl
def c_syntax_Expr__84 : EC := (seqs [x84_0,(seqs [x84_1,x84_10]),x84_11,.rt])
theorem k_84 : ecF Tryd.prog 84 = some (19, c_syntax_Expr__84, [.tm 4]) := by kernel_rfl

/-- tallystone/token.blank -/
def x85_0:EC:=.rg [o 2 .mv [i 0]] false
@[simp]def e85_0:=rgF x85_0 rfl
def x85_1:EC:=.rg [o 3 .mv [b false]] false
@[simp]def e85_1:=rgF x85_1 rfl
def x85_2:EC:=.rg [m 6 0,o 7 .rngS [t 6]] false
@[simp]def e85_2:=rgF x85_2 rfl
def x85_3:EC:=.rg [o 8 .nxtS [t 7],o 9 (.ext 0) [t 8]] false
@[simp]def e85_3:=rgF x85_3 rfl
def x85_4:EC:=.cd (t 9) .skip (.ex 0)
@[simp]def e85_4:=cdF x85_4 rfl
def x85_5:EC:=.rg [o 10 (.ext 1) [t 8],o 11 (.ext 2) [t 8],m 4 10,m 5 11] false
@[simp]def e85_5:=rgF x85_5 rfl
def x85_6:EC:=.rg [m 13 5,o 14 (.bin .eql) [t 13, c (.t (.int .i32 10))],m 12 14] false
@[simp]def e85_6:=rgF x85_6 rfl
def x85_7:EC:=.cd (t 12) (.ex 3) .skip
@[simp]def e85_7:=cdF x85_7 rfl
def x85_8:EC:=.rg [m 16 3,m 15 16] false
@[simp]def e85_8:=rgF x85_8 rfl
def x85_9:EC:=.rg [m 17 5,o 18 (.bin .eql) [t 17, c (.t (.int .i32 32))],m 15 18] false
@[simp]def e85_9:=rgF x85_9 rfl
def x85_10:EC:=.rg [m 19 5,o 20 (.bin .eql) [t 19, c (.t (.int .i32 9))],m 15 20] false
@[simp]def e85_10:=rgF x85_10 rfl
def x85_11:EC:=.rg [m 21 5,o 22 (.bin .eql) [t 21, c (.t (.int .i32 13))],m 15 22] false
@[simp]def e85_11:=rgF x85_11 rfl
def x85_12:EC:=.cd (t 15) .skip x85_11
@[simp]def e85_12:=cdF x85_12 rfl
def x85_13:EC:=.cd (t 15) .skip (seqs [x85_10,x85_12])
@[simp]def e85_13:=cdF x85_13 rfl
def x85_14:EC:=.cd (t 15) .skip (seqs [x85_9,x85_13])
@[simp]def e85_14:=cdF x85_14 rfl
def x85_15:EC:=.cd (t 15) (.ex 4) .skip
@[simp]def e85_15:=cdF x85_15 rfl
def x85_16:EC:=.rg [m 24 5,o 25 (.bin .eql) [t 24, c (.t (.int .i32 35))],m 23 25] false
@[simp]def e85_16:=rgF x85_16 rfl
def x85_17:EC:=.cd (t 23) (.ex 5) .skip
@[simp]def e85_17:=cdF x85_17 rfl
def x85_18:EC:=.bk 3 (seqs [(seqs [(seqs [x85_6,x85_7]),(seqs [(seqs [x85_8,x85_14]),x85_15]),x85_16,x85_17]),(.ex 6)])
@[simp]def e85_18:=bkF x85_18 rfl
def x85_19:EC:=.rg [o 3 .mv [b false]] false
@[simp]def e85_19:=rgF x85_19 rfl
def x85_20:EC:=.bk 4 (seqs [x85_18,x85_19])
@[simp]def e85_20:=bkF x85_20 rfl
def x85_21:EC:=.bk 5 (seqs [x85_20,(.ex 2)])
@[simp]def e85_21:=bkF x85_21 rfl
def x85_22:EC:=.rg [o 3 .mv [b true]] false
@[simp]def e85_22:=rgF x85_22 rfl
def x85_23:EC:=.bk 6 (seqs [x85_21,x85_22,(.ex 2)])
@[simp]def e85_23:=bkF x85_23 rfl
def x85_24:EC:=.rg [m 26 4,m 2 26] false
@[simp]def e85_24:=rgF x85_24 rfl
def x85_25:EC:=.bk 2 (seqs [x85_23,(seqs [x85_24,.rt]),(.ex 2)])
@[simp]def e85_25:=bkF x85_25 rfl
def x85_26:EC:=.bk 1 (seqs [x85_5,x85_25])
@[simp]def e85_26:=bkF x85_26 rfl
def x85_27:EC:=.bk 0 (.lp (seqs [x85_3,x85_4,x85_26]))
@[simp]def e85_27:=bkF x85_27 rfl
def x85_28:EC:=.rg [m 27 0,o 28 .lenS [t 27],m 2 28] false
@[simp]def e85_28:=rgF x85_28 rfl
def c_token_blank_85 : EC := (seqs [x85_0,x85_1,(seqs [x85_2,x85_27]),x85_28,.rt])
theorem k_85 : ecF Tryd.prog 85 = some (29, c_token_blank_85, [.tm 2]) := by kernel_rfl

/-- tallystone/token.next -/
def x86_0:EC:=.rg [o 2 .mv [i 0],o 3 .mv [i 0]] false
@[simp]def e86_0:=rgF x86_0 rfl
def x86_1:EC:=.rg [m 5 0,o 6 .ixS [t 5, i 0],o 7 (.call 96) [t 6],m 4 7] false
@[simp]def e86_1:=rgF x86_1 rfl
def x86_2:EC:=.rg [m 8 0,o 9 (.call 97) [t 8, c (.fn (.func 98) [])],o 2 .mv [i 1],m 3 9] false
@[simp]def e86_2:=rgF x86_2 rfl
def x86_3:EC:=.rg [m 11 0,o 12 .ixS [t 11, i 0],o 13 (.call 99) [t 12],m 10 13] false
@[simp]def e86_3:=rgF x86_3 rfl
def x86_4:EC:=.rg [m 14 0,o 15 (.call 97) [t 14, c (.fn (.func 99) [])],o 2 .mv [i 2],m 3 15] false
@[simp]def e86_4:=rgF x86_4 rfl
def x86_5:EC:=.rg [m 17 0,o 18 .lenS [t 17],o 19 (.bin .gtr) [t 18, i 1],m 20 19,y 21 20 (.call 101) [c (.t (.str [46, 46, 32, 60, 61, 32, 62, 61, 32, 33, 61]))],y 22 20 .mv [t 0],y 23 20 (.slS false true) [t 22, i 2],y 24 20 (.call 100) [t 21, t 23],o 25 .pick [t 20, t 24, b false],m 16 25] true
@[simp]def e86_5:=rgF x86_5 rfl
def x86_6:EC:=.rg [o 2 .mv [i 3],o 3 .mv [i 2]] false
@[simp]def e86_6:=rgF x86_6 rfl
def x86_7:EC:=.rg [m 27 0,o 28 .ixS [t 27, i 0],o 29 (.call 102) [c (.t (.str [123, 125, 40, 41, 44, 59, 61, 43, 45, 42, 60, 62])), t 28],o 30 (.bin .geq) [t 29, i 0],m 26 30] false
@[simp]def e86_7:=rgF x86_7 rfl
def x86_8:EC:=.rg [o 2 .mv [i 3],o 3 .mv [i 1]] false
@[simp]def e86_8:=rgF x86_8 rfl
def x86_9:EC:=.cd (t 26) (seqs [x86_8,.rt]) .skip
@[simp]def e86_9:=cdF x86_9 rfl
def x86_10:EC:=.cd (t 16) (seqs [x86_6,.rt]) (seqs [x86_7,x86_9])
@[simp]def e86_10:=cdF x86_10 rfl
def x86_11:EC:=.cd (t 10) (seqs [x86_4,.rt]) (seqs [x86_5,x86_10])
@[simp]def e86_11:=cdF x86_11 rfl
def x86_12:EC:=.cd (t 4) (seqs [x86_2,.rt]) (seqs [x86_3,x86_11])
@[simp]def e86_12:=cdF x86_12 rfl
def x86_13:EC:=.bk 0 (seqs [x86_1,x86_12])
@[simp]def e86_13:=bkF x86_13 rfl
def x86_14:EC:=.rg [o 2 .mv [i 0],o 3 .mv [i 0]] false
@[simp]def e86_14:=rgF x86_14 rfl
def c_token_next_86 : EC := (seqs [x86_0,x86_13,x86_14,.rt])
theorem k_86 : ecF Tryd.prog 86 = some (31, c_token_next_86, [.tm 2, .tm 3]) := by kernel_rfl

/-- tallystone/token.Value -/
def x87_0:EC:=.rg [o 1 .box [t 0],o 2 .mv [i 0],o 3 .mv [b false]] false
@[simp]def e87_0:=rgF x87_0 rfl
def x87_1:EC:=.rg [o 7 (.faddr 0) [t 1],o 8 (.load 1 false) [t 7],o 9 (.bin .neq) [t 8, i 2],m 10 9,n 11 10 (.faddr 1) [t 1],n 12 10 (.load 1 false) [t 11],n 13 10 (.bin .eql) [t 12, c (.t (.str []))],o 14 .pick [t 10, b true, t 13],m 15 14,n 16 15 (.faddr 1) [t 1],n 17 15 (.load 1 false) [t 16],n 18 15 (.call 97) [t 17, c (.fn (.func 99) [])],n 19 15 (.faddr 1) [t 1],n 20 15 (.load 1 false) [t 19],n 21 15 .lenS [t 20],n 22 15 (.bin .lss) [t 18, t 21],o 23 .pick [t 15, b true, t 22]] true
@[simp]def e87_1:=rgF x87_1 rfl
def x87_2:EC:=.rg [o 2 .mv [i 0],o 3 .mv [b false]] false
@[simp]def e87_2:=rgF x87_2 rfl
def x87_3:EC:=.cd (t 23) (seqs [x87_2,.rt]) .skip
@[simp]def e87_3:=cdF x87_3 rfl
def x87_4:EC:=.rg [o 4 .mv [i 0]] false
@[simp]def e87_4:=rgF x87_4 rfl
def x87_5:EC:=.rg [o 24 (.faddr 1) [t 1],o 25 (.load 1 false) [t 24],o 26 .rngS [t 25]] false
@[simp]def e87_5:=rgF x87_5 rfl
def x87_6:EC:=.rg [o 27 .nxtS [t 26],o 28 (.ext 0) [t 27]] false
@[simp]def e87_6:=rgF x87_6 rfl
def x87_7:EC:=.cd (t 28) .skip (.ex 0)
@[simp]def e87_7:=cdF x87_7 rfl
def x87_8:EC:=.rg [o 29 (.ext 2) [t 27],m 6 29] false
@[simp]def e87_8:=rgF x87_8 rfl
def x87_9:EC:=.rg [m 30 4,o 31 (.bin .mul) [i 10, t 30],m 32 6,o 33 (.bin .sub) [t 32, c (.t (.int .i32 48))],o 34 (.cvI .i64) [t 33],o 35 (.bin .add) [t 31, t 34],m 4 35] false
@[simp]def e87_9:=rgF x87_9 rfl
def x87_10:EC:=.rg [m 36 4,o 37 (.bin .gtr) [t 36, i 1000000000000]] false
@[simp]def e87_10:=rgF x87_10 rfl
def x87_11:EC:=.rg [o 2 .mv [i 0],o 3 .mv [b false]] false
@[simp]def e87_11:=rgF x87_11 rfl
def x87_12:EC:=.cd (t 37) (seqs [x87_11,.rt]) .skip
@[simp]def e87_12:=cdF x87_12 rfl
def x87_13:EC:=.bk 1 (seqs [x87_8,x87_9,x87_10,x87_12])
@[simp]def e87_13:=bkF x87_13 rfl
def x87_14:EC:=.bk 0 (.lp (seqs [x87_6,x87_7,x87_13]))
@[simp]def e87_14:=bkF x87_14 rfl
def x87_15:EC:=.rg [m 38 4,m 2 38,o 3 .mv [b true]] false
@[simp]def e87_15:=rgF x87_15 rfl
def c_token_Value_87 : EC := (seqs [x87_0,(seqs [x87_1,x87_3]),x87_4,(seqs [x87_5,x87_14]),x87_15,.rt])
theorem k_87 : ecF Tryd.prog 87 = some (39, c_token_Value_87, [.tm 2, .tm 3]) := by kernel_rfl

/-- tallystone/syntax.args -/
def x88_0:EC:=.rg [o 2 .mv [i 0]] false
@[simp]def e88_0:=rgF x88_0 rfl
def x88_1:EC:=.rg [m 4 0,o 5 (.bin .geq) [t 4, i 3],m 6 5,y 7 6 .mv [t 0],y 8 6 (.bin .leq) [t 7, i 6],o 9 .pick [t 6, t 8, b false],m 3 9] false
@[simp]def e88_1:=rgF x88_1 rfl
def x88_2:EC:=.rg [m 10 0,o 11 (.bin .eql) [t 10, i 20],m 3 11] false
@[simp]def e88_2:=rgF x88_2 rfl
def x88_3:EC:=.cd (t 3) .skip x88_2
@[simp]def e88_3:=cdF x88_3 rfl
def x88_4:EC:=.rg [o 2 .mv [i 1]] false
@[simp]def e88_4:=rgF x88_4 rfl
def x88_5:EC:=.rg [m 13 0,o 14 (.bin .geq) [t 13, i 7],m 15 14,y 16 15 .mv [t 0],y 17 15 (.bin .leq) [t 16, i 19],o 18 .pick [t 15, t 17, b false],m 12 18] false
@[simp]def e88_5:=rgF x88_5 rfl
def x88_6:EC:=.rg [o 2 .mv [i 2]] false
@[simp]def e88_6:=rgF x88_6 rfl
def x88_7:EC:=.cd (t 12) (seqs [x88_6,.rt]) .skip
@[simp]def e88_7:=cdF x88_7 rfl
def x88_8:EC:=.cd (t 3) (seqs [x88_4,.rt]) (seqs [x88_5,x88_7])
@[simp]def e88_8:=cdF x88_8 rfl
def x88_9:EC:=.bk 0 (seqs [(seqs [x88_1,x88_3]),x88_8])
@[simp]def e88_9:=bkF x88_9 rfl
def x88_10:EC:=.rg [o 2 .mv [i 0]] false
@[simp]def e88_10:=rgF x88_10 rfl
def c_syntax_args_88 : EC := (seqs [x88_0,x88_9,x88_10,.rt])
theorem k_88 : ecF Tryd.prog 88 = some (19, c_syntax_args_88, [.tm 2]) := by kernel_rfl

/-- tallystone/syntax.proper$1 -/
def x89_0:EC:=.rg [o 1 .box [t 0],o 2 .mv [b false]] false
@[simp]def e89_0:=rgF x89_0 rfl
def x89_1:EC:=.rg [o 3 (.load 6 true) [t 1],o 4 (.call 68) [t 3],o 5 (.un .not) [t 4],m 2 5] false
@[simp]def e89_1:=rgF x89_1 rfl
def c_syntax_properS1_89 : EC := (seqs [x89_0,x89_1,.rt])
theorem k_89 : ecF Tryd.prog 89 = some (6, c_syntax_properS1_89, [.tm 2]) := by kernel_rfl

/-- tallystone/token.letter -/
def x96_0:EC:=.rg [o 2 .mv [b false]] false
@[simp]def e96_0:=rgF x96_0 rfl
def x96_1:EC:=.rg [m 3 0,o 4 (.bin .geq) [t 3, c (.t (.int .u8 97))],m 5 4,y 6 5 .mv [t 0],y 7 5 (.bin .leq) [t 6, c (.t (.int .u8 122))],o 8 .pick [t 5, t 7, b false],m 2 8] false
@[simp]def e96_1:=rgF x96_1 rfl
def c_token_letter_96 : EC := (seqs [x96_0,x96_1,.rt])
theorem k_96 : ecF Tryd.prog 96 = some (9, c_token_letter_96, [.tm 2]) := by kernel_rfl

/-- tallystone/token.run -/
def x97_0:EC:=.rg [o 4 .mv [i 0]] false
@[simp]def e97_0:=rgF x97_0 rfl
def x97_1:EC:=.rg [m 6 0,o 7 .lenS [t 6],o 8 .mv [i 0]] false
@[simp]def e97_1:=rgF x97_1 rfl
def x97_2:EC:=.rg [o 9 (.bin .lss) [t 8, t 7]] false
@[simp]def e97_2:=rgF x97_2 rfl
def x97_3:EC:=.cd (t 9) .skip (.ex 0)
@[simp]def e97_3:=cdF x97_3 rfl
def x97_4:EC:=.rg [m 10 8,m 5 10] false
@[simp]def e97_4:=rgF x97_4 rfl
def x97_5:EC:=.rg [m 11 1,m 12 0,m 13 5,o 14 .ixS [t 12, t 13],o 15 .callv [t 11, t 14],o 16 (.un .not) [t 15]] false
@[simp]def e97_5:=rgF x97_5 rfl
def x97_6:EC:=.rg [m 17 5,m 4 17] false
@[simp]def e97_6:=rgF x97_6 rfl
def x97_7:EC:=.cd (t 16) (seqs [x97_6,.rt]) .skip
@[simp]def e97_7:=cdF x97_7 rfl
def x97_8:EC:=.bk 1 (seqs [x97_4,x97_5,x97_7])
@[simp]def e97_8:=bkF x97_8 rfl
def x97_9:EC:=.rg [o 18 (.bin .add) [t 8, i 1],m 8 18] false
@[simp]def e97_9:=rgF x97_9 rfl
def x97_10:EC:=.bk 0 (.lp (seqs [x97_2,x97_3,x97_8,x97_9]))
@[simp]def e97_10:=bkF x97_10 rfl
def x97_11:EC:=.rg [m 19 0,o 20 .lenS [t 19],m 4 20] false
@[simp]def e97_11:=rgF x97_11 rfl
def c_token_run_97 : EC := (seqs [x97_0,(seqs [x97_1,x97_10]),x97_11,.rt])
theorem k_97 : ecF Tryd.prog 97 = some (21, c_token_run_97, [.tm 4]) := by kernel_rfl

/-- tallystone/token.next$1 -/
def x98_0:EC:=.rg [o 2 .mv [b false]] false
@[simp]def e98_0:=rgF x98_0 rfl
def x98_1:EC:=.rg [m 3 0,o 4 (.call 96) [t 3],m 5 4,n 6 5 .mv [t 0],n 7 5 (.call 99) [t 6],o 8 .pick [t 5, b true, t 7],m 9 8,n 10 9 .mv [t 0],n 11 9 (.bin .eql) [t 10, c (.t (.int .u8 95))],o 12 .pick [t 9, b true, t 11],m 2 12] false
@[simp]def e98_1:=rgF x98_1 rfl
def c_token_nextS1_98 : EC := (seqs [x98_0,x98_1,.rt])
theorem k_98 : ecF Tryd.prog 98 = some (13, c_token_nextS1_98, [.tm 2]) := by kernel_rfl

/-- tallystone/token.digit -/
def x99_0:EC:=.rg [o 2 .mv [b false]] false
@[simp]def e99_0:=rgF x99_0 rfl
def x99_1:EC:=.rg [m 3 0,o 4 (.bin .geq) [t 3, c (.t (.int .u8 48))],m 5 4,y 6 5 .mv [t 0],y 7 5 (.bin .leq) [t 6, c (.t (.int .u8 57))],o 8 .pick [t 5, t 7, b false],m 2 8] false
@[simp]def e99_1:=rgF x99_1 rfl
def c_token_digit_99 : EC := (seqs [x99_0,x99_1,.rt])
theorem k_99 : ecF Tryd.prog 99 = some (9, c_token_digit_99, [.tm 2]) := by kernel_rfl

/-- slices.Contains[[]string,string] -/
def x100_0:EC:=.rg [o 4 .mv [b false]] false
@[simp]def e100_0:=rgF x100_0 rfl
def x100_1:EC:=.rg [m 5 0,m 6 1,o 7 (.call 104) [t 5, t 6],o 8 (.bin .geq) [t 7, i 0],m 4 8] false
@[simp]def e100_1:=rgF x100_1 rfl
def c_slices_Contains___string_string__100 : EC := (seqs [x100_0,x100_1,.rt])
theorem k_100 : ecF Tryd.prog 100 = some (9, c_slices_Contains___string_string__100, [.tm 4]) := by kernel_rfl

/-- strings.Fields -/
def x101_0:EC:=.rg [o 2 .mv [c (.snil)]] false
@[simp]def e101_0:=rgF x101_0 rfl
def x101_1:EC:=.rg [o 3 .mv [i 0]] false
@[simp]def e101_1:=rgF x101_1 rfl
def x101_2:EC:=.rg [o 4 .mv [i 1]] false
@[simp]def e101_2:=rgF x101_2 rfl
def x101_3:EC:=.rg [o 5 .mv [c (.t (.int .u8 0))]] false
@[simp]def e101_3:=rgF x101_3 rfl
def x101_4:EC:=.rg [o 6 .mv [i 0]] false
@[simp]def e101_4:=rgF x101_4 rfl
def x101_5:EC:=.rg [m 13 6,m 14 0,o 15 .lenS [t 14],o 16 (.bin .lss) [t 13, t 15]] false
@[simp]def e101_5:=rgF x101_5 rfl
def x101_6:EC:=.cd (t 16) .skip (.ex 0)
@[simp]def e101_6:=cdF x101_6 rfl
def x101_7:EC:=.rg [m 19 0,m 20 6,o 21 .ixS [t 19, t 20],m 7 21] false
@[simp]def e101_7:=rgF x101_7 rfl
def x101_8:EC:=.rg [m 22 5,m 23 7,o 24 (.bin .or) [t 22, t 23],m 5 24] false
@[simp]def e101_8:=rgF x101_8 rfl
def x101_9:EC:=.rg [m 25 7,o 26 (.iaA 256 1) [c (laidTp 0), t 25],o 27 (.load 1 false) [t 26],o 28 (.cvI .i64) [t 27],m 8 28] false
@[simp]def e101_9:=rgF x101_9 rfl
def x101_10:EC:=.rg [m 29 3,m 30 4,m 31 8,o 32 (.un .xor) [t 31],o 33 (.bin .and) [t 30, t 32],o 34 (.bin .add) [t 29, t 33],m 3 34] false
@[simp]def e101_10:=rgF x101_10 rfl
def x101_11:EC:=.rg [m 35 8,m 4 35] false
@[simp]def e101_11:=rgF x101_11 rfl
def x101_12:EC:=.bk 1 (seqs [x101_7,x101_8,x101_9,x101_10,x101_11])
@[simp]def e101_12:=bkF x101_12 rfl
def x101_13:EC:=.rg [m 17 6,o 18 (.bin .add) [t 17, i 1],m 6 18] false
@[simp]def e101_13:=rgF x101_13 rfl
def x101_14:EC:=.bk 0 (.lp (seqs [(seqs [x101_5,x101_6]),x101_12,x101_13]))
@[simp]def e101_14:=bkF x101_14 rfl
def x101_15:EC:=.rg [m 36 5,o 37 (.bin .geq) [t 36, c (.t (.int .u8 128))]] false
@[simp]def e101_15:=rgF x101_15 rfl
def x101_16:EC:=.rg [m 38 0,o 39 (.call 105) [t 38, c (.fn (.func 106) [])],m 2 39] false
@[simp]def e101_16:=rgF x101_16 rfl
def x101_17:EC:=.cd (t 37) (seqs [x101_16,.rt]) .skip
@[simp]def e101_17:=cdF x101_17 rfl
def x101_18:EC:=.rg [m 40 3,o 41 (.mks 9 1 16 [.t (.str [])]) [t 40, t 40],m 9 41] false
@[simp]def e101_18:=rgF x101_18 rfl
def x101_19:EC:=.rg [o 10 .mv [i 0]] false
@[simp]def e101_19:=rgF x101_19 rfl
def x101_20:EC:=.rg [o 11 .mv [i 0]] false
@[simp]def e101_20:=rgF x101_20 rfl
def x101_21:EC:=.rg [o 12 .mv [i 0]] false
@[simp]def e101_21:=rgF x101_21 rfl
def x101_22:EC:=.rg [m 42 12,m 43 0,o 44 .lenS [t 43],o 45 (.bin .lss) [t 42, t 44],m 46 45,y 47 46 .mv [t 0],y 48 46 .mv [t 12],y 49 46 .ixS [t 47, t 48],y 50 46 (.iaA 256 1) [c (laidTp 0), t 49],y 51 46 (.load 1 false) [t 50],y 52 46 (.bin .neq) [t 51, c (.t (.int .u8 0))],o 53 .pick [t 46, t 52, b false]] false
@[simp]def e101_22:=rgF x101_22 rfl
def x101_23:EC:=.cd (t 53) .skip (.ex 2)
@[simp]def e101_23:=cdF x101_23 rfl
def x101_24:EC:=.rg [m 54 12,o 55 (.bin .add) [t 54, i 1],m 12 55] false
@[simp]def e101_24:=rgF x101_24 rfl
def x101_25:EC:=.bk 3 x101_24
@[simp]def e101_25:=bkF x101_25 rfl
def x101_26:EC:=.bk 2 (.lp (seqs [(seqs [x101_22,x101_23]),x101_25]))
@[simp]def e101_26:=bkF x101_26 rfl
def x101_27:EC:=.rg [m 56 12,m 11 56] false
@[simp]def e101_27:=rgF x101_27 rfl
def x101_28:EC:=.rg [m 57 12,m 58 0,o 59 .lenS [t 58],o 60 (.bin .lss) [t 57, t 59]] false
@[simp]def e101_28:=rgF x101_28 rfl
def x101_29:EC:=.cd (t 60) .skip (.ex 4)
@[simp]def e101_29:=cdF x101_29 rfl
def x101_30:EC:=.rg [m 61 0,m 62 12,o 63 .ixS [t 61, t 62],o 64 (.iaA 256 1) [c (laidTp 0), t 63],o 65 (.load 1 false) [t 64],o 66 (.bin .eql) [t 65, c (.t (.int .u8 0))]] false
@[simp]def e101_30:=rgF x101_30 rfl
def x101_31:EC:=.rg [m 67 12,o 68 (.bin .add) [t 67, i 1],m 12 68] false
@[simp]def e101_31:=rgF x101_31 rfl
def x101_32:EC:=.cd (t 66) (seqs [x101_31,(.ex 5)]) .skip
@[simp]def e101_32:=cdF x101_32 rfl
def x101_33:EC:=.rg [m 69 9,m 70 10,m 71 0,m 72 11,m 73 12,o 74 (.slS true true) [t 71, t 72, t 73],o 75 (.iaS 1) [t 69, t 70],u (.store 1) [t 75, t 74]] false
@[simp]def e101_33:=rgF x101_33 rfl
def x101_34:EC:=.rg [m 76 10,o 77 (.bin .add) [t 76, i 1],m 10 77] false
@[simp]def e101_34:=rgF x101_34 rfl
def x101_35:EC:=.rg [m 78 12,o 79 (.bin .add) [t 78, i 1],m 12 79] false
@[simp]def e101_35:=rgF x101_35 rfl
def x101_36:EC:=.rg [m 80 12,m 81 0,o 82 .lenS [t 81],o 83 (.bin .lss) [t 80, t 82],m 84 83,y 85 84 .mv [t 0],y 86 84 .mv [t 12],y 87 84 .ixS [t 85, t 86],y 88 84 (.iaA 256 1) [c (laidTp 0), t 87],y 89 84 (.load 1 false) [t 88],y 90 84 (.bin .neq) [t 89, c (.t (.int .u8 0))],o 91 .pick [t 84, t 90, b false]] false
@[simp]def e101_36:=rgF x101_36 rfl
def x101_37:EC:=.cd (t 91) .skip (.ex 6)
@[simp]def e101_37:=cdF x101_37 rfl
def x101_38:EC:=.rg [m 92 12,o 93 (.bin .add) [t 92, i 1],m 12 93] false
@[simp]def e101_38:=rgF x101_38 rfl
def x101_39:EC:=.bk 7 x101_38
@[simp]def e101_39:=bkF x101_39 rfl
def x101_40:EC:=.bk 6 (.lp (seqs [(seqs [x101_36,x101_37]),x101_39]))
@[simp]def e101_40:=bkF x101_40 rfl
def x101_41:EC:=.rg [m 94 12,m 11 94] false
@[simp]def e101_41:=rgF x101_41 rfl
def x101_42:EC:=.bk 5 (seqs [(seqs [x101_30,x101_32]),x101_33,x101_34,x101_35,x101_40,x101_41])
@[simp]def e101_42:=bkF x101_42 rfl
def x101_43:EC:=.bk 4 (.lp (seqs [(seqs [x101_28,x101_29]),x101_42]))
@[simp]def e101_43:=bkF x101_43 rfl
def x101_44:EC:=.rg [m 95 11,m 96 0,o 97 .lenS [t 96],o 98 (.bin .lss) [t 95, t 97]] false
@[simp]def e101_44:=rgF x101_44 rfl
def x101_45:EC:=.rg [m 99 9,m 100 10,m 101 0,m 102 11,o 103 (.slS true false) [t 101, t 102],o 104 (.iaS 1) [t 99, t 100],u (.store 1) [t 104, t 103]] false
@[simp]def e101_45:=rgF x101_45 rfl
def x101_46:EC:=.cd (t 98) x101_45 .skip
@[simp]def e101_46:=cdF x101_46 rfl
def x101_47:EC:=.rg [m 105 9,m 2 105] false
@[simp]def e101_47:=rgF x101_47 rfl
def c_strings_Fields_101 : EC := (seqs [x101_0,x101_1,x101_2,x101_3,(seqs [x101_4,x101_14]),(seqs [x101_15,x101_17]),x101_18,x101_19,x101_20,x101_21,x101_26,x101_27,x101_43,(seqs [x101_44,x101_46]),x101_47,.rt])
theorem k_101 : ecF Tryd.prog 101 = some (106, c_strings_Fields_101, [.tm 2]) := by kernel_rfl

/-- strings.IndexByte -/
def x102_0:EC:=.rg [o 4 .mv [i 0]] false
@[simp]def e102_0:=rgF x102_0 rfl
def x102_1:EC:=.rg [m 5 0,m 6 1,o 7 (.call 107) [t 5, t 6],m 4 7] false
@[simp]def e102_1:=rgF x102_1 rfl
def c_strings_IndexByte_102 : EC := (seqs [x102_0,x102_1,.rt])
theorem k_102 : ecF Tryd.prog 102 = some (8, c_strings_IndexByte_102, [.tm 4]) := by kernel_rfl

/-- slices.Index[[]string,string] -/
def x104_0:EC:=.rg [o 4 .mv [i 0]] false
@[simp]def e104_0:=rgF x104_0 rfl
def x104_1:EC:=.rg [m 6 0,o 7 .lenL [t 6],o 8 .mv [i 0]] false
@[simp]def e104_1:=rgF x104_1 rfl
def x104_2:EC:=.rg [o 9 (.bin .lss) [t 8, t 7]] false
@[simp]def e104_2:=rgF x104_2 rfl
def x104_3:EC:=.cd (t 9) .skip (.ex 0)
@[simp]def e104_3:=cdF x104_3 rfl
def x104_4:EC:=.rg [m 10 8,m 5 10] false
@[simp]def e104_4:=rgF x104_4 rfl
def x104_5:EC:=.rg [m 11 1,m 12 0,m 13 5,o 14 (.iaS 1) [t 12, t 13],o 15 (.load 1 false) [t 14],o 16 (.bin .eql) [t 11, t 15]] false
@[simp]def e104_5:=rgF x104_5 rfl
def x104_6:EC:=.rg [m 17 5,m 4 17] false
@[simp]def e104_6:=rgF x104_6 rfl
def x104_7:EC:=.cd (t 16) (seqs [x104_6,.rt]) .skip
@[simp]def e104_7:=cdF x104_7 rfl
def x104_8:EC:=.bk 1 (seqs [x104_4,x104_5,x104_7])
@[simp]def e104_8:=bkF x104_8 rfl
def x104_9:EC:=.rg [o 18 (.bin .add) [t 8, i 1],m 8 18] false
@[simp]def e104_9:=rgF x104_9 rfl
def x104_10:EC:=.bk 0 (.lp (seqs [x104_2,x104_3,x104_8,x104_9]))
@[simp]def e104_10:=bkF x104_10 rfl
def x104_11:EC:=.rg [o 4 .mv [i (-1)]] false
@[simp]def e104_11:=rgF x104_11 rfl
def c_slices_Index___string_string__104 : EC := (seqs [x104_0,(seqs [x104_1,x104_10]),x104_11,.rt])
theorem k_104 : ecF Tryd.prog 104 = some (19, c_slices_Index___string_string__104, [.tm 4]) := by kernel_rfl

/-- strings.FieldsFunc -/
def x105_0:EC:=.rg [o 4 .mv [c (.snil)]] false
@[simp]def e105_0:=rgF x105_0 rfl
def x105_1:EC:=.rg [o 12 (.mks 150 2 16 [.t (.int .i64 0), .t (.int .i64 0)]) [i 0, i 32],m 5 12] false
@[simp]def e105_1:=rgF x105_1 rfl
def x105_2:EC:=.rg [o 6 .mv [i (-1)]] false
@[simp]def e105_2:=rgF x105_2 rfl
def x105_3:EC:=.rg [m 13 0,o 14 .rngS [t 13]] false
@[simp]def e105_3:=rgF x105_3 rfl
def x105_4:EC:=.rg [o 15 .nxtS [t 14],o 16 (.ext 0) [t 15]] false
@[simp]def e105_4:=rgF x105_4 rfl
def x105_5:EC:=.cd (t 16) .skip (.ex 0)
@[simp]def e105_5:=cdF x105_5 rfl
def x105_6:EC:=.rg [o 17 (.ext 1) [t 15],o 18 (.ext 2) [t 15],m 7 17,m 8 18] false
@[simp]def e105_6:=rgF x105_6 rfl
def x105_7:EC:=.rg [m 19 1,m 20 8,o 21 .callv [t 19, t 20]] false
@[simp]def e105_7:=rgF x105_7 rfl
def x105_8:EC:=.rg [m 22 6,o 23 (.bin .geq) [t 22, i 0]] false
@[simp]def e105_8:=rgF x105_8 rfl
def x105_9:EC:=.rg [m 24 5,m 25 6,m 26 7,o 27 (.build [.t (.int .i64 0), .t (.int .i64 0)] [(0, 1), (1, 1)]) [t 25, t 26],o 28 (.bsl 2) [t 27],o 29 (.app 150 2 16) [t 24, t 28],m 5 29] false
@[simp]def e105_9:=rgF x105_9 rfl
def x105_10:EC:=.rg [m 30 6,o 31 (.un .xor) [t 30],m 6 31] false
@[simp]def e105_10:=rgF x105_10 rfl
def x105_11:EC:=.cd (t 23) (seqs [x105_9,x105_10]) .skip
@[simp]def e105_11:=cdF x105_11 rfl
def x105_12:EC:=.rg [m 32 6,o 33 (.bin .lss) [t 32, i 0]] false
@[simp]def e105_12:=rgF x105_12 rfl
def x105_13:EC:=.rg [m 34 7,m 6 34] false
@[simp]def e105_13:=rgF x105_13 rfl
def x105_14:EC:=.cd (t 33) x105_13 .skip
@[simp]def e105_14:=cdF x105_14 rfl
def x105_15:EC:=.cd (t 21) (seqs [x105_8,x105_11]) (seqs [x105_12,x105_14])
@[simp]def e105_15:=cdF x105_15 rfl
def x105_16:EC:=.bk 1 (seqs [x105_6,x105_7,x105_15])
@[simp]def e105_16:=bkF x105_16 rfl
def x105_17:EC:=.bk 0 (.lp (seqs [x105_4,x105_5,x105_16]))
@[simp]def e105_17:=bkF x105_17 rfl
def x105_18:EC:=.rg [m 35 6,o 36 (.bin .geq) [t 35, i 0]] false
@[simp]def e105_18:=rgF x105_18 rfl
def x105_19:EC:=.rg [m 37 5,m 38 6,m 39 0,o 40 .lenS [t 39],o 41 (.build [.t (.int .i64 0), .t (.int .i64 0)] [(0, 1), (1, 1)]) [t 38, t 40],o 42 (.bsl 2) [t 41],o 43 (.app 150 2 16) [t 37, t 42],m 5 43] false
@[simp]def e105_19:=rgF x105_19 rfl
def x105_20:EC:=.cd (t 36) x105_19 .skip
@[simp]def e105_20:=cdF x105_20 rfl
def x105_21:EC:=.rg [m 44 5,o 45 .lenL [t 44],o 46 (.mks 9 1 16 [.t (.str [])]) [t 45, t 45],m 9 46] false
@[simp]def e105_21:=rgF x105_21 rfl
def x105_22:EC:=.rg [m 47 5,o 48 .lenL [t 47],o 49 .mv [i 0]] false
@[simp]def e105_22:=rgF x105_22 rfl
def x105_23:EC:=.rg [o 50 (.bin .lss) [t 49, t 48]] false
@[simp]def e105_23:=rgF x105_23 rfl
def x105_24:EC:=.cd (t 50) .skip (.ex 2)
@[simp]def e105_24:=cdF x105_24 rfl
def x105_25:EC:=.rg [m 51 49,o 52 (.iaS 2) [t 47, t 49],o 53 (.load 2 true) [t 52],o 11 (.alloc [.t (.int .i64 0), .t (.int .i64 0)]) [],m 10 51,u (.store 2) [t 11, t 53]] false
@[simp]def e105_25:=rgF x105_25 rfl
def x105_26:EC:=.rg [m 54 9,m 55 10,m 56 0,o 57 (.faddr 0) [t 11],o 58 (.load 1 false) [t 57],o 59 (.faddr 1) [t 11],o 60 (.load 1 false) [t 59],o 61 (.slS true true) [t 56, t 58, t 60],o 62 (.iaS 1) [t 54, t 55],u (.store 1) [t 62, t 61]] false
@[simp]def e105_26:=rgF x105_26 rfl
def x105_27:EC:=.bk 3 (seqs [x105_25,x105_26])
@[simp]def e105_27:=bkF x105_27 rfl
def x105_28:EC:=.rg [o 63 (.bin .add) [t 49, i 1],m 49 63] false
@[simp]def e105_28:=rgF x105_28 rfl
def x105_29:EC:=.bk 2 (.lp (seqs [x105_23,x105_24,x105_27,x105_28]))
@[simp]def e105_29:=bkF x105_29 rfl
def x105_30:EC:=.rg [m 64 9,m 4 64] false
@[simp]def e105_30:=rgF x105_30 rfl
def c_strings_FieldsFunc_105 : EC := (seqs [x105_0,x105_1,x105_2,(seqs [x105_3,x105_17]),(seqs [x105_18,x105_20]),x105_21,(seqs [x105_22,x105_29]),x105_30,.rt])
theorem k_105 : ecF Tryd.prog 105 = some (65, c_strings_FieldsFunc_105, [.tm 4]) := by kernel_rfl

/-- strings.FieldsFunc, with slices that grow in boxes -/
def xb105_0:EC:=.rg [o 4 .mv [c (.snil)]] false
@[simp]def eb105_0:=rgF xb105_0 rfl
def xb105_1:EC:=.rg [o 12 (.mks 150 2 16 [.t (.int .i64 0), .t (.int .i64 0)]) [i 0, i 32],m 5 12] false
@[simp]def eb105_1:=rgF xb105_1 rfl
def xb105_2:EC:=.rg [o 6 .mv [i (-1)]] false
@[simp]def eb105_2:=rgF xb105_2 rfl
def xb105_3:EC:=.rg [m 13 0,o 14 .rngS [t 13]] false
@[simp]def eb105_3:=rgF xb105_3 rfl
def xb105_4:EC:=.rg [o 15 .nxtS [t 14],o 16 (.ext 0) [t 15]] false
@[simp]def eb105_4:=rgF xb105_4 rfl
def xb105_5:EC:=.cd (t 16) .skip (.ex 0)
@[simp]def eb105_5:=cdF xb105_5 rfl
def xb105_6:EC:=.rg [o 17 (.ext 1) [t 15],o 18 (.ext 2) [t 15],m 7 17,m 8 18] false
@[simp]def eb105_6:=rgF xb105_6 rfl
def xb105_7:EC:=.rg [m 19 1,m 20 8,o 21 .callv [t 19, t 20]] false
@[simp]def eb105_7:=rgF xb105_7 rfl
def xb105_8:EC:=.rg [m 22 6,o 23 (.bin .geq) [t 22, i 0]] false
@[simp]def eb105_8:=rgF xb105_8 rfl
def xb105_9:EC:=.rg [m 24 5,m 25 6,m 26 7,o 27 (.build [.t (.int .i64 0), .t (.int .i64 0)] [(0, 1), (1, 1)]) [t 25, t 26],o 28 (.bsl 2) [t 27],o 29 (.appB 150 2 16) [t 24, t 28],m 5 29] false
@[simp]def eb105_9:=rgF xb105_9 rfl
def xb105_10:EC:=.rg [m 30 6,o 31 (.un .xor) [t 30],m 6 31] false
@[simp]def eb105_10:=rgF xb105_10 rfl
def xb105_11:EC:=.cd (t 23) (seqs [xb105_9,xb105_10]) .skip
@[simp]def eb105_11:=cdF xb105_11 rfl
def xb105_12:EC:=.rg [m 32 6,o 33 (.bin .lss) [t 32, i 0]] false
@[simp]def eb105_12:=rgF xb105_12 rfl
def xb105_13:EC:=.rg [m 34 7,m 6 34] false
@[simp]def eb105_13:=rgF xb105_13 rfl
def xb105_14:EC:=.cd (t 33) xb105_13 .skip
@[simp]def eb105_14:=cdF xb105_14 rfl
def xb105_15:EC:=.cd (t 21) (seqs [xb105_8,xb105_11]) (seqs [xb105_12,xb105_14])
@[simp]def eb105_15:=cdF xb105_15 rfl
def xb105_16:EC:=.bk 1 (seqs [xb105_6,xb105_7,xb105_15])
@[simp]def eb105_16:=bkF xb105_16 rfl
def xb105_17:EC:=.bk 0 (.lp (seqs [xb105_4,xb105_5,xb105_16]))
@[simp]def eb105_17:=bkF xb105_17 rfl
def xb105_18:EC:=.rg [m 35 6,o 36 (.bin .geq) [t 35, i 0]] false
@[simp]def eb105_18:=rgF xb105_18 rfl
def xb105_19:EC:=.rg [m 37 5,m 38 6,m 39 0,o 40 .lenS [t 39],o 41 (.build [.t (.int .i64 0), .t (.int .i64 0)] [(0, 1), (1, 1)]) [t 38, t 40],o 42 (.bsl 2) [t 41],o 43 (.appB 150 2 16) [t 37, t 42],m 5 43] false
@[simp]def eb105_19:=rgF xb105_19 rfl
def xb105_20:EC:=.cd (t 36) xb105_19 .skip
@[simp]def eb105_20:=cdF xb105_20 rfl
def xb105_21:EC:=.rg [m 44 5,o 45 .lenL [t 44],o 46 (.mks 9 1 16 [.t (.str [])]) [t 45, t 45],m 9 46] false
@[simp]def eb105_21:=rgF xb105_21 rfl
def xb105_22:EC:=.rg [m 47 5,o 48 .lenL [t 47],o 49 .mv [i 0]] false
@[simp]def eb105_22:=rgF xb105_22 rfl
def xb105_23:EC:=.rg [o 50 (.bin .lss) [t 49, t 48]] false
@[simp]def eb105_23:=rgF xb105_23 rfl
def xb105_24:EC:=.cd (t 50) .skip (.ex 2)
@[simp]def eb105_24:=cdF xb105_24 rfl
def xb105_25:EC:=.rg [m 51 49,o 52 (.iaS 2) [t 47, t 49],o 53 (.load 2 true) [t 52],o 11 (.alloc [.t (.int .i64 0), .t (.int .i64 0)]) [],m 10 51,u (.store 2) [t 11, t 53]] false
@[simp]def eb105_25:=rgF xb105_25 rfl
def xb105_26:EC:=.rg [m 54 9,m 55 10,m 56 0,o 57 (.faddr 0) [t 11],o 58 (.load 1 false) [t 57],o 59 (.faddr 1) [t 11],o 60 (.load 1 false) [t 59],o 61 (.slS true true) [t 56, t 58, t 60],o 62 (.iaS 1) [t 54, t 55],u (.store 1) [t 62, t 61]] false
@[simp]def eb105_26:=rgF xb105_26 rfl
def xb105_27:EC:=.bk 3 (seqs [xb105_25,xb105_26])
@[simp]def eb105_27:=bkF xb105_27 rfl
def xb105_28:EC:=.rg [o 63 (.bin .add) [t 49, i 1],m 49 63] false
@[simp]def eb105_28:=rgF xb105_28 rfl
def xb105_29:EC:=.bk 2 (.lp (seqs [xb105_23,xb105_24,xb105_27,xb105_28]))
@[simp]def eb105_29:=bkF xb105_29 rfl
def xb105_30:EC:=.rg [m 64 9,m 4 64] false
@[simp]def eb105_30:=rgF xb105_30 rfl
def b_strings_FieldsFunc_105 : EC := (seqs [xb105_0,xb105_1,xb105_2,(seqs [xb105_3,xb105_17]),(seqs [xb105_18,xb105_20]),xb105_21,(seqs [xb105_22,xb105_29]),xb105_30,.rt])
theorem kb_105 : ecB Tryd.prog 105 = some (65, b_strings_FieldsFunc_105, [.tm 4]) := by kernel_rfl

/-- internal/stringslite.IndexByte -/
def x107_0:EC:=.rg [o 4 .mv [i 0]] false
@[simp]def e107_0:=rgF x107_0 rfl
def x107_1:EC:=.rg [m 5 0,m 6 1,o 7 (.call 109) [t 5, t 6],m 4 7] false
@[simp]def e107_1:=rgF x107_1 rfl
def c_stringslite_IndexByte_107 : EC := (seqs [x107_0,x107_1,.rt])
theorem k_107 : ecF Tryd.prog 107 = some (8, c_stringslite_IndexByte_107, [.tm 4]) := by kernel_rfl
end Go.Proofs.YtnlkppaehbopaaaDoor
