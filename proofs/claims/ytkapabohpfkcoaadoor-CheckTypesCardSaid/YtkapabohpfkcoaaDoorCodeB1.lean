/- The code of the functions of this seat, as the engine reads it; printed by program out of the translation, checked by the kernel. -/
import Derived.Test.YtkapabohpfkcoaaDoorEe
import Derived.Test.YtkapabohpfkcoaaDoorProg
set_option linter.unusedSimpArgs false
set_option linter.unusedVariables false
set_option linter.defProp false
namespace Go.Proofs.YtkapabohpfkcoaaDoor
open Go.Proofs E E.Z
variable {P : Program} {nb nt : Nat} {Q : Ex → Fr → St → Prop} {a : Fr} {S : St}
/-- tallystone/tallystoneref32.proper -/
def x76_0:EC:=.rg [o 1 .box [t 0],o 2 .mv [b false]] false
@[simp]def e76_0:=rgF x76_0 rfl
def x76_1:EC:=.rg [o 4 (.faddr 5) [t 1],o 5 (.load 1 false) [t 4],o 6 .lenL [t 5],o 7 (.faddr 0) [t 1],o 8 (.load 1 false) [t 7],o 9 (.call 105) [t 8],o 10 (.bin .neq) [t 6, t 9]] true
@[simp]def e76_1:=rgF x76_1 rfl
def x76_2:EC:=.rg [o 2 .mv [b false]] false
@[simp]def e76_2:=rgF x76_2 rfl
def x76_3:EC:=.cd (t 10) (seqs [x76_2,.rt]) .skip
@[simp]def e76_3:=cdF x76_3 rfl
def x76_4:EC:=.rg [o 3 .mv [i 0]] false
@[simp]def e76_4:=rgF x76_4 rfl
def x76_5:EC:=.rg [m 11 3,o 12 (.faddr 5) [t 1],o 13 (.load 1 false) [t 12],o 14 .lenL [t 13],o 15 (.bin .lss) [t 11, t 14]] false
@[simp]def e76_5:=rgF x76_5 rfl
def x76_6:EC:=.cd (t 15) .skip (.ex 0)
@[simp]def e76_6:=cdF x76_6 rfl
def x76_7:EC:=.rg [o 18 (.faddr 5) [t 1],o 19 (.load 1 false) [t 18],m 20 3,o 21 (.iaS 6) [t 19, t 20],o 22 (.load 6 true) [t 21],o 23 (.call 76) [t 22],o 24 (.un .not) [t 23]] false
@[simp]def e76_7:=rgF x76_7 rfl
def x76_8:EC:=.rg [o 2 .mv [b false]] false
@[simp]def e76_8:=rgF x76_8 rfl
def x76_9:EC:=.cd (t 24) (seqs [x76_8,.rt]) .skip
@[simp]def e76_9:=cdF x76_9 rfl
def x76_10:EC:=.bk 1 (seqs [x76_7,x76_9])
@[simp]def e76_10:=bkF x76_10 rfl
def x76_11:EC:=.rg [m 16 3,o 17 (.bin .add) [t 16, i 1],m 3 17] false
@[simp]def e76_11:=rgF x76_11 rfl
def x76_12:EC:=.bk 0 (.lp (seqs [(seqs [x76_5,x76_6]),x76_10,x76_11]))
@[simp]def e76_12:=bkF x76_12 rfl
def x76_13:EC:=.rg [o 25 (.faddr 0) [t 1],o 26 (.load 1 false) [t 25],o 27 (.bin .eql) [t 26, i 2],m 28 27,y 29 28 (.faddr 4) [t 1],y 30 28 (.load 1 false) [t 29],y 31 28 (.call 73) [t 30],y 32 28 (.un .not) [t 31],o 33 .pick [t 28, t 32, b false],m 34 33,n 35 34 (.faddr 0) [t 1],n 36 34 (.load 1 false) [t 35],n 37 34 (.bin .neq) [t 36, i 2],n 38 34 .mv [t 37],y 39 38 (.faddr 4) [t 1],y 40 38 (.load 1 false) [t 39],y 41 38 (.bin .neq) [t 40, c (.t (.str []))],n 42 34 .pick [t 38, t 41, b false],o 43 .pick [t 34, b true, t 42]] false
@[simp]def e76_13:=rgF x76_13 rfl
def x76_14:EC:=.rg [o 2 .mv [b false]] false
@[simp]def e76_14:=rgF x76_14 rfl
def x76_15:EC:=.cd (t 43) (seqs [x76_14,.rt]) .skip
@[simp]def e76_15:=cdF x76_15 rfl
def x76_16:EC:=.rg [o 44 (.faddr 0) [t 1],o 45 (.load 1 false) [t 44]] false
@[simp]def e76_16:=rgF x76_16 rfl
def x76_17:EC:=.rg [o 47 (.bin .eql) [t 45, i 21],m 46 47] false
@[simp]def e76_17:=rgF x76_17 rfl
def x76_18:EC:=.rg [o 48 (.bin .eql) [t 45, i 22],m 46 48] false
@[simp]def e76_18:=rgF x76_18 rfl
def x76_19:EC:=.cd (t 46) .skip x76_18
@[simp]def e76_19:=cdF x76_19 rfl
def x76_20:EC:=.rg [o 49 (.faddr 1) [t 1],o 50 (.load 1 false) [t 49],o 51 (.bin .eql) [t 50, i 0],m 52 51,y 53 52 (.faddr 2) [t 1],y 54 52 (.load 1 false) [t 53],y 55 52 (.call 74) [t 54],o 56 .pick [t 52, t 55, b false],m 57 56,y 58 57 (.faddr 3) [t 1],y 59 57 (.load 1 false) [t 58],y 60 57 (.call 74) [t 59],o 61 .pick [t 57, t 60, b false],m 2 61] false
@[simp]def e76_20:=rgF x76_20 rfl
def x76_21:EC:=.rg [o 63 (.bin .eql) [t 45, i 1],m 62 63] false
@[simp]def e76_21:=rgF x76_21 rfl
def x76_22:EC:=.rg [o 64 (.bin .eql) [t 45, i 20],m 62 64] false
@[simp]def e76_22:=rgF x76_22 rfl
def x76_23:EC:=.cd (t 62) .skip x76_22
@[simp]def e76_23:=cdF x76_23 rfl
def x76_24:EC:=.rg [o 65 (.faddr 2) [t 1],o 66 (.load 1 false) [t 65],o 67 (.bin .eql) [t 66, i 0],m 68 67,y 69 68 (.faddr 3) [t 1],y 70 68 (.load 1 false) [t 69],y 71 68 (.bin .eql) [t 70, i 0],o 72 .pick [t 68, t 71, b false],m 73 72,y 74 73 (.faddr 1) [t 1],y 75 73 (.load 1 false) [t 74],y 76 73 (.bin .leq) [t 75, i 1000000000000],o 77 .pick [t 73, t 76, b false],m 78 77,y 79 78 (.faddr 1) [t 1],y 80 78 (.load 1 false) [t 79],y 81 78 (.bin .gtr) [t 80, i 0],y 82 78 .mv [t 81],n 83 82 (.faddr 1) [t 1],n 84 82 (.load 1 false) [t 83],n 85 82 (.bin .eql) [t 84, i 0],n 86 82 .mv [t 85],y 87 86 (.faddr 0) [t 1],y 88 86 (.load 1 false) [t 87],y 89 86 (.bin .eql) [t 88, i 1],n 90 82 .pick [t 86, t 89, b false],y 91 78 .pick [t 82, b true, t 90],o 92 .pick [t 78, t 91, b false],m 2 92] false
@[simp]def e76_24:=rgF x76_24 rfl
def x76_25:EC:=.cd (t 62) (seqs [x76_24,.rt]) .skip
@[simp]def e76_25:=cdF x76_25 rfl
def x76_26:EC:=.cd (t 46) (seqs [x76_20,.rt]) (seqs [(seqs [x76_21,x76_23]),x76_25])
@[simp]def e76_26:=cdF x76_26 rfl
def x76_27:EC:=.bk 2 (seqs [(seqs [x76_17,x76_19]),x76_26])
@[simp]def e76_27:=bkF x76_27 rfl
def x76_28:EC:=.rg [o 93 (.faddr 1) [t 1],o 94 (.load 1 false) [t 93],o 95 (.bin .eql) [t 94, i 0],m 96 95,y 97 96 (.faddr 2) [t 1],y 98 96 (.load 1 false) [t 97],y 99 96 (.bin .eql) [t 98, i 0],o 100 .pick [t 96, t 99, b false],m 101 100,y 102 101 (.faddr 3) [t 1],y 103 101 (.load 1 false) [t 102],y 104 101 (.bin .eql) [t 103, i 0],o 105 .pick [t 101, t 104, b false],m 2 105] false
@[simp]def e76_28:=rgF x76_28 rfl
def c_tallystoneref32_proper_76 : EC := (seqs [x76_0,(seqs [x76_1,x76_3]),(seqs [x76_4,x76_12]),(seqs [x76_13,x76_15]),(seqs [x76_16,x76_27]),x76_28,.rt])
theorem k_76 : ecF Tryd.prog 76 = some (106, c_tallystoneref32_proper_76, [.tm 2]) := by kernel_rfl

/-- slices.Sort[[]int,int] -/
def x77_0:EC:=.rg [m 3 0,o 4 .lenL [t 3],m 2 4] false
@[simp]def e77_0:=rgF x77_0 rfl
def x77_1:EC:=.rg [m 5 0,m 6 2,m 7 2,o 8 (.cvI .u64) [t 7],o 9 (.call 107) [t 8],o 10 (.call 106) [t 5, i 0, t 6, t 9]] false
@[simp]def e77_1:=rgF x77_1 rfl
def c_slices_Sort___int_int__77 : EC := (seqs [x77_0,x77_1])
theorem k_77 : ecF Tryd.prog 77 = some (11, c_slices_Sort___int_int__77, []) := by kernel_rfl

/-- tallystone/tallystoneref33.put -/
def x79_0:EC:=.rg [o 4 .mv [c (.snil)]] false
@[simp]def e79_0:=rgF x79_0 rfl
def x79_1:EC:=.rg [o 5 .mv [c (.snil)]] false
@[simp]def e79_1:=rgF x79_1 rfl
def x79_2:EC:=.rg [o 6 .mv [b false]] false
@[simp]def e79_2:=rgF x79_2 rfl
def x79_3:EC:=.rg [o 7 .mv [i 0]] false
@[simp]def e79_3:=rgF x79_3 rfl
def x79_4:EC:=.rg [m 8 7,m 9 0,o 10 .lenL [t 9],o 11 (.bin .lss) [t 8, t 10]] false
@[simp]def e79_4:=rgF x79_4 rfl
def x79_5:EC:=.cd (t 11) .skip (.ex 0)
@[simp]def e79_5:=cdF x79_5 rfl
def x79_6:EC:=.rg [m 14 1,m 15 0,m 16 7,o 17 (.iaS 1) [t 15, t 16],o 18 (.load 1 false) [t 17],o 19 (.bin .lss) [t 14, t 18],m 20 19,y 21 20 .mv [t 6],y 22 20 (.un .not) [t 21],o 23 .pick [t 20, t 22, b false]] false
@[simp]def e79_6:=rgF x79_6 rfl
def x79_7:EC:=.rg [m 24 5,m 25 1,o 26 (.bsl 1) [t 25],o 27 (.app 3 1 8) [t 24, t 26],m 5 27] false
@[simp]def e79_7:=rgF x79_7 rfl
def x79_8:EC:=.cd (t 23) x79_7 .skip
@[simp]def e79_8:=cdF x79_8 rfl
def x79_9:EC:=.rg [m 28 6,m 29 28,n 30 29 .mv [t 1],n 31 29 .mv [t 0],n 32 29 .mv [t 7],n 33 29 (.iaS 1) [t 31, t 32],n 34 29 (.load 1 false) [t 33],n 35 29 (.bin .leq) [t 30, t 34],o 36 .pick [t 29, b true, t 35],m 6 36] false
@[simp]def e79_9:=rgF x79_9 rfl
def x79_10:EC:=.rg [m 37 5,m 38 0,m 39 7,o 40 (.iaS 1) [t 38, t 39],o 41 (.load 1 false) [t 40],o 42 (.bsl 1) [t 41],o 43 (.app 3 1 8) [t 37, t 42],m 5 43] false
@[simp]def e79_10:=rgF x79_10 rfl
def x79_11:EC:=.bk 1 (seqs [(seqs [x79_6,x79_8]),x79_9,x79_10])
@[simp]def e79_11:=bkF x79_11 rfl
def x79_12:EC:=.rg [m 12 7,o 13 (.bin .add) [t 12, i 1],m 7 13] false
@[simp]def e79_12:=rgF x79_12 rfl
def x79_13:EC:=.bk 0 (.lp (seqs [(seqs [x79_4,x79_5]),x79_11,x79_12]))
@[simp]def e79_13:=bkF x79_13 rfl
def x79_14:EC:=.rg [m 44 6,o 45 (.un .not) [t 44]] false
@[simp]def e79_14:=rgF x79_14 rfl
def x79_15:EC:=.rg [m 46 5,m 47 1,o 48 (.bsl 1) [t 47],o 49 (.app 3 1 8) [t 46, t 48],m 5 49] false
@[simp]def e79_15:=rgF x79_15 rfl
def x79_16:EC:=.cd (t 45) x79_15 .skip
@[simp]def e79_16:=cdF x79_16 rfl
def x79_17:EC:=.rg [m 50 5,m 4 50] false
@[simp]def e79_17:=rgF x79_17 rfl
def c_tallystoneref33_put_79 : EC := (seqs [x79_0,x79_1,x79_2,(seqs [x79_3,x79_13]),(seqs [x79_14,x79_16]),x79_17,.rt])
theorem k_79 : ecF Tryd.prog 79 = some (51, c_tallystoneref33_put_79, [.tm 4]) := by kernel_rfl

/-- tallystone/tallystoneref33.put, with slices that grow in boxes -/
def xb79_0:EC:=.rg [o 4 .mv [c (.snil)]] false
@[simp]def eb79_0:=rgF xb79_0 rfl
def xb79_1:EC:=.rg [o 5 .mv [c (.snil)]] false
@[simp]def eb79_1:=rgF xb79_1 rfl
def xb79_2:EC:=.rg [o 6 .mv [b false]] false
@[simp]def eb79_2:=rgF xb79_2 rfl
def xb79_3:EC:=.rg [o 7 .mv [i 0]] false
@[simp]def eb79_3:=rgF xb79_3 rfl
def xb79_4:EC:=.rg [m 8 7,m 9 0,o 10 .lenL [t 9],o 11 (.bin .lss) [t 8, t 10]] false
@[simp]def eb79_4:=rgF xb79_4 rfl
def xb79_5:EC:=.cd (t 11) .skip (.ex 0)
@[simp]def eb79_5:=cdF xb79_5 rfl
def xb79_6:EC:=.rg [m 14 1,m 15 0,m 16 7,o 17 (.iaS 1) [t 15, t 16],o 18 (.load 1 false) [t 17],o 19 (.bin .lss) [t 14, t 18],m 20 19,y 21 20 .mv [t 6],y 22 20 (.un .not) [t 21],o 23 .pick [t 20, t 22, b false]] false
@[simp]def eb79_6:=rgF xb79_6 rfl
def xb79_7:EC:=.rg [m 24 5,m 25 1,o 26 (.bsl 1) [t 25],o 27 (.appB 3 1 8) [t 24, t 26],m 5 27] false
@[simp]def eb79_7:=rgF xb79_7 rfl
def xb79_8:EC:=.cd (t 23) xb79_7 .skip
@[simp]def eb79_8:=cdF xb79_8 rfl
def xb79_9:EC:=.rg [m 28 6,m 29 28,n 30 29 .mv [t 1],n 31 29 .mv [t 0],n 32 29 .mv [t 7],n 33 29 (.iaS 1) [t 31, t 32],n 34 29 (.load 1 false) [t 33],n 35 29 (.bin .leq) [t 30, t 34],o 36 .pick [t 29, b true, t 35],m 6 36] false
@[simp]def eb79_9:=rgF xb79_9 rfl
def xb79_10:EC:=.rg [m 37 5,m 38 0,m 39 7,o 40 (.iaS 1) [t 38, t 39],o 41 (.load 1 false) [t 40],o 42 (.bsl 1) [t 41],o 43 (.appB 3 1 8) [t 37, t 42],m 5 43] false
@[simp]def eb79_10:=rgF xb79_10 rfl
def xb79_11:EC:=.bk 1 (seqs [(seqs [xb79_6,xb79_8]),xb79_9,xb79_10])
@[simp]def eb79_11:=bkF xb79_11 rfl
def xb79_12:EC:=.rg [m 12 7,o 13 (.bin .add) [t 12, i 1],m 7 13] false
@[simp]def eb79_12:=rgF xb79_12 rfl
def xb79_13:EC:=.bk 0 (.lp (seqs [(seqs [xb79_4,xb79_5]),xb79_11,xb79_12]))
@[simp]def eb79_13:=bkF xb79_13 rfl
def xb79_14:EC:=.rg [m 44 6,o 45 (.un .not) [t 44]] false
@[simp]def eb79_14:=rgF xb79_14 rfl
def xb79_15:EC:=.rg [m 46 5,m 47 1,o 48 (.bsl 1) [t 47],o 49 (.appB 3 1 8) [t 46, t 48],m 5 49] false
@[simp]def eb79_15:=rgF xb79_15 rfl
def xb79_16:EC:=.cd (t 45) xb79_15 .skip
@[simp]def eb79_16:=cdF xb79_16 rfl
def xb79_17:EC:=.rg [m 50 5,m 4 50] false
@[simp]def eb79_17:=rgF xb79_17 rfl
def b_tallystoneref33_put_79 : EC := (seqs [xb79_0,xb79_1,xb79_2,(seqs [xb79_3,xb79_13]),(seqs [xb79_14,xb79_16]),xb79_17,.rt])
theorem kb_79 : ecB Tryd.prog 79 = some (51, b_tallystoneref33_put_79, [.tm 4]) := by kernel_rfl

/-- slices.ContainsFunc[tallystone/syntax.Program,tallystone/syntax.Rule] -/
def x80_0:EC:=.rg [o 4 .mv [b false]] false
@[simp]def e80_0:=rgF x80_0 rfl
def x80_1:EC:=.rg [m 5 0,m 6 1,o 7 (.call 108) [t 5, t 6],o 8 (.bin .geq) [t 7, i 0],m 4 8] false
@[simp]def e80_1:=rgF x80_1 rfl
def c_syntax_Rule__80 : EC := (seqs [x80_0,x80_1,.rt])
theorem k_80 : ecF Tryd.prog 80 = some (9, c_syntax_Rule__80, [.tm 4]) := by kernel_rfl

/-- tallystone/check.Reads$1 -/
def x81_0:EC:=.rg [o 2 .box [t 0],o 3 .mv [b false]] false
@[simp]def e81_0:=rgF x81_0 rfl
def x81_1:EC:=.rg [o 4 (.faddr 2) [t 2],o 5 (.load 1 false) [t 4],o 6 (.mkfn (.func 83)) [t 1],o 7 (.call 82) [t 5, t 6],m 3 7] false
@[simp]def e81_1:=rgF x81_1 rfl
def c_check_ReadsS1_81 : EC := (seqs [x81_0,x81_1,.rt])
theorem k_81 : ecF Tryd.prog 81 = some (8, c_check_ReadsS1_81, [.tm 3]) := by kernel_rfl

/-- slices.ContainsFunc[[]tallystone/syntax.Stmt,tallystone/syntax.Stmt] -/
def x82_0:EC:=.rg [o 4 .mv [b false]] false
@[simp]def e82_0:=rgF x82_0 rfl
def x82_1:EC:=.rg [m 5 0,m 6 1,o 7 (.call 109) [t 5, t 6],o 8 (.bin .geq) [t 7, i 0],m 4 8] false
@[simp]def e82_1:=rgF x82_1 rfl
def c_syntax_Stmt__82 : EC := (seqs [x82_0,x82_1,.rt])
theorem k_82 : ecF Tryd.prog 82 = some (9, c_syntax_Stmt__82, [.tm 4]) := by kernel_rfl

/-- tallystone/check.Reads$1$1 -/
def x83_0:EC:=.rg [o 2 .box [t 0],o 3 .mv [b false]] false
@[simp]def e83_0:=rgF x83_0 rfl
def x83_1:EC:=.rg [o 4 (.faddr 3) [t 2],o 5 (.load 6 true) [t 4],o 6 (.load 1 false) [t 1],o 7 (.call 84) [t 5, t 6],m 3 7] false
@[simp]def e83_1:=rgF x83_1 rfl
def c_check_ReadsS1S1_83 : EC := (seqs [x83_0,x83_1,.rt])
theorem k_83 : ecF Tryd.prog 83 = some (8, c_check_ReadsS1S1_83, [.tm 3]) := by kernel_rfl

/-- tallystone/check.reads -/
def x84_0:EC:=.rg [o 2 .box [t 0],o 3 .box [t 1],o 4 .mv [b false]] false
@[simp]def e84_0:=rgF x84_0 rfl
def x84_1:EC:=.rg [o 6 (.faddr 0) [t 2],o 7 (.load 1 false) [t 6],o 8 (.bin .eql) [t 7, i 21],m 9 8,n 10 9 (.faddr 0) [t 2],n 11 9 (.load 1 false) [t 10],n 12 9 (.bin .eql) [t 11, i 22],o 13 .pick [t 9, b true, t 12],m 14 13,y 15 14 (.load 1 false) [t 3],y 16 14 (.faddr 2) [t 2],y 17 14 (.load 1 false) [t 16],y 18 14 (.bin .geq) [t 15, t 17],o 19 .pick [t 14, t 18, b false],m 20 19,y 21 20 (.load 1 false) [t 3],y 22 20 (.faddr 3) [t 2],y 23 20 (.load 1 false) [t 22],y 24 20 (.bin .leq) [t 21, t 23],o 25 .pick [t 20, t 24, b false],m 5 25] false
@[simp]def e84_1:=rgF x84_1 rfl
def x84_2:EC:=.rg [m 26 5,m 27 26,n 28 27 (.faddr 5) [t 2],n 29 27 (.load 1 false) [t 28],n 30 27 (.mkfn (.func 111)) [t 3],n 31 27 (.call 110) [t 29, t 30],o 32 .pick [t 27, b true, t 31],m 4 32] false
@[simp]def e84_2:=rgF x84_2 rfl
def c_check_reads_84 : EC := (seqs [x84_0,x84_1,x84_2,.rt])
theorem k_84 : ecF Tryd.prog 84 = some (33, c_check_reads_84, [.tm 4]) := by kernel_rfl

/-- tallystone/tallystoneref33.reads -/
def x85_0:EC:=.rg [o 2 .box [t 0],o 4 .mv [b false]] false
@[simp]def e85_0:=rgF x85_0 rfl
def x85_1:EC:=.rg [o 6 (.faddr 0) [t 2],o 7 (.load 1 false) [t 6],o 8 (.bin .eql) [t 7, i 21],m 9 8,n 10 9 (.faddr 0) [t 2],n 11 9 (.load 1 false) [t 10],n 12 9 (.bin .eql) [t 11, i 22],o 13 .pick [t 9, b true, t 12],m 14 13,y 15 14 (.faddr 2) [t 2],y 16 14 (.load 1 false) [t 15],y 17 14 .mv [t 1],y 18 14 (.bin .leq) [t 16, t 17],o 19 .pick [t 14, t 18, b false],m 20 19,y 21 20 .mv [t 1],y 22 20 (.faddr 3) [t 2],y 23 20 (.load 1 false) [t 22],y 24 20 (.bin .leq) [t 21, t 23],o 25 .pick [t 20, t 24, b false]] false
@[simp]def e85_1:=rgF x85_1 rfl
def x85_2:EC:=.rg [o 4 .mv [b true]] false
@[simp]def e85_2:=rgF x85_2 rfl
def x85_3:EC:=.cd (t 25) (seqs [x85_2,.rt]) .skip
@[simp]def e85_3:=cdF x85_3 rfl
def x85_4:EC:=.rg [o 5 .mv [i 0]] false
@[simp]def e85_4:=rgF x85_4 rfl
def x85_5:EC:=.rg [m 26 5,o 27 (.faddr 5) [t 2],o 28 (.load 1 false) [t 27],o 29 .lenL [t 28],o 30 (.bin .lss) [t 26, t 29]] false
@[simp]def e85_5:=rgF x85_5 rfl
def x85_6:EC:=.cd (t 30) .skip (.ex 0)
@[simp]def e85_6:=cdF x85_6 rfl
def x85_7:EC:=.rg [o 33 (.faddr 5) [t 2],o 34 (.load 1 false) [t 33],m 35 5,o 36 (.iaS 6) [t 34, t 35],o 37 (.load 6 true) [t 36],m 38 1,o 39 (.call 85) [t 37, t 38]] false
@[simp]def e85_7:=rgF x85_7 rfl
def x85_8:EC:=.rg [o 4 .mv [b true]] false
@[simp]def e85_8:=rgF x85_8 rfl
def x85_9:EC:=.cd (t 39) (seqs [x85_8,.rt]) .skip
@[simp]def e85_9:=cdF x85_9 rfl
def x85_10:EC:=.bk 1 (seqs [x85_7,x85_9])
@[simp]def e85_10:=bkF x85_10 rfl
def x85_11:EC:=.rg [m 31 5,o 32 (.bin .add) [t 31, i 1],m 5 32] false
@[simp]def e85_11:=rgF x85_11 rfl
def x85_12:EC:=.bk 0 (.lp (seqs [(seqs [x85_5,x85_6]),x85_10,x85_11]))
@[simp]def e85_12:=bkF x85_12 rfl
def x85_13:EC:=.rg [o 4 .mv [b false]] false
@[simp]def e85_13:=rgF x85_13 rfl
def c_tallystoneref33_reads_85 : EC := (seqs [x85_0,(seqs [x85_1,x85_3]),(seqs [x85_4,x85_12]),x85_13,.rt])
theorem k_85 : ecF Tryd.prog 85 = some (40, c_tallystoneref33_reads_85, [.tm 4]) := by kernel_rfl

/-- tallystone/syntax.named -/
def x86_0:EC:=.rg [o 2 .mv [b false]] false
@[simp]def e86_0:=rgF x86_0 rfl
def x86_1:EC:=.rg [m 7 0,o 8 (.call 112) [t 7],m 6 8,o 9 (.ext 0) [t 6],o 10 (.ext 1) [t 6],o 11 (.ext 2) [t 6],m 3 9,m 4 10,m 5 11] false
@[simp]def e86_1:=rgF x86_1 rfl
def x86_2:EC:=.rg [m 12 5,o 13 (.bin .eql) [t 12, i 0],m 14 13,y 15 14 .mv [t 3],y 16 14 .lenL [t 15],y 17 14 (.bin .eql) [t 16, i 1],o 18 .pick [t 14, t 17, b false],m 19 18,y 20 19 .mv [t 3],y 21 19 (.iaS 3) [t 20, i 0],y 22 19 (.faddr 0) [t 21],y 23 19 (.load 1 false) [t 22],y 24 19 (.bin .eql) [t 23, i 1],o 25 .pick [t 19, t 24, b false],m 26 25,y 27 26 .mv [t 3],y 28 26 (.iaS 3) [t 27, i 0],y 29 26 (.faddr 1) [t 28],y 30 26 (.load 1 false) [t 29],y 31 26 .mv [t 0],y 32 26 (.bin .eql) [t 30, t 31],o 33 .pick [t 26, t 32, b false],m 34 33,y 35 34 .mv [t 0],y 36 34 (.call 113) [t 35],y 37 34 (.un .not) [t 36],o 38 .pick [t 34, t 37, b false],m 2 38] false
@[simp]def e86_2:=rgF x86_2 rfl
def c_syntax_named_86 : EC := (seqs [x86_0,x86_1,x86_2,.rt])
theorem k_86 : ecF Tryd.prog 86 = some (39, c_syntax_named_86, [.tm 2]) := by kernel_rfl

/-- tallystone/syntax.account -/
def x87_0:EC:=.rg [o 2 .mv [b false]] false
@[simp]def e87_0:=rgF x87_0 rfl
def x87_1:EC:=.rg [m 3 0,o 4 (.bin .geq) [t 3, i 1],m 5 4,y 6 5 .mv [t 0],y 7 5 (.bin .leq) [t 6, i 99999],o 8 .pick [t 5, t 7, b false],m 2 8] false
@[simp]def e87_1:=rgF x87_1 rfl
def c_syntax_account_87 : EC := (seqs [x87_0,x87_1,.rt])
theorem k_87 : ecF Tryd.prog 87 = some (9, c_syntax_account_87, [.tm 2]) := by kernel_rfl

/-- tallystone/syntax.Valid$1 -/
def x88_0:EC:=.rg [o 1 .box [t 0],o 2 .mv [b false]] false
@[simp]def e88_0:=rgF x88_0 rfl
def x88_1:EC:=.rg [o 3 (.load 9 true) [t 1],o 4 (.call 89) [t 3],o 5 (.un .not) [t 4],m 2 5] false
@[simp]def e88_1:=rgF x88_1 rfl
def c_syntax_ValidS1_88 : EC := (seqs [x88_0,x88_1,.rt])
theorem k_88 : ecF Tryd.prog 88 = some (6, c_syntax_ValidS1_88, [.tm 2]) := by kernel_rfl

/-- tallystone/syntax.stmt -/
def x89_0:EC:=.rg [o 1 .box [t 0],o 2 .mv [b false]] false
@[simp]def e89_0:=rgF x89_0 rfl
def x89_1:EC:=.rg [o 3 .mv [b false]] false
@[simp]def e89_1:=rgF x89_1 rfl
def x89_2:EC:=.rg [o 4 (.faddr 0) [t 1],o 5 (.load 1 false) [t 4]] false
@[simp]def e89_2:=rgF x89_2 rfl
def x89_3:EC:=.rg [o 7 (.bin .eql) [t 5, i 1],m 6 7] false
@[simp]def e89_3:=rgF x89_3 rfl
def x89_4:EC:=.rg [o 8 (.faddr 2) [t 1],o 9 (.load 1 false) [t 8],o 10 (.call 86) [t 9],m 11 10,y 12 11 (.faddr 1) [t 1],y 13 11 (.load 1 false) [t 12],y 14 11 (.bin .eql) [t 13, i 0],o 15 .pick [t 11, t 14, b false],m 3 15] false
@[simp]def e89_4:=rgF x89_4 rfl
def x89_5:EC:=.rg [o 17 (.bin .eql) [t 5, i 2],m 16 17] false
@[simp]def e89_5:=rgF x89_5 rfl
def x89_6:EC:=.rg [o 18 (.faddr 2) [t 1],o 19 (.load 1 false) [t 18],o 20 (.bin .eql) [t 19, c (.t (.str []))],m 21 20,y 22 21 (.faddr 1) [t 1],y 23 21 (.load 1 false) [t 22],y 24 21 (.bin .eql) [t 23, i 0],o 25 .pick [t 21, t 24, b false],m 3 25] false
@[simp]def e89_6:=rgF x89_6 rfl
def x89_7:EC:=.rg [o 27 (.bin .eql) [t 5, i 3],m 26 27] false
@[simp]def e89_7:=rgF x89_7 rfl
def x89_8:EC:=.rg [o 28 (.faddr 2) [t 1],o 29 (.load 1 false) [t 28],o 30 (.bin .eql) [t 29, c (.t (.str []))],m 31 30,y 32 31 (.faddr 1) [t 1],y 33 31 (.load 1 false) [t 32],y 34 31 (.call 87) [t 33],o 35 .pick [t 31, t 34, b false],m 3 35] false
@[simp]def e89_8:=rgF x89_8 rfl
def x89_9:EC:=.cd (t 26) x89_8 .skip
@[simp]def e89_9:=cdF x89_9 rfl
def x89_10:EC:=.cd (t 16) x89_6 (seqs [x89_7,x89_9])
@[simp]def e89_10:=cdF x89_10 rfl
def x89_11:EC:=.cd (t 6) x89_4 (seqs [x89_5,x89_10])
@[simp]def e89_11:=cdF x89_11 rfl
def x89_12:EC:=.bk 0 (seqs [x89_3,x89_11])
@[simp]def e89_12:=bkF x89_12 rfl
def x89_13:EC:=.rg [m 36 3,m 37 36,y 38 37 (.faddr 3) [t 1],y 39 37 (.load 6 true) [t 38],y 40 37 (.call 114) [t 39],y 41 37 (.bin .leq) [t 40, i 30],o 42 .pick [t 37, t 41, b false],m 43 42,y 44 43 (.faddr 3) [t 1],y 45 43 (.load 6 true) [t 44],y 46 43 (.call 115) [t 45],o 47 .pick [t 43, t 46, b false],m 2 47] false
@[simp]def e89_13:=rgF x89_13 rfl
def c_syntax_stmt_89 : EC := (seqs [x89_0,x89_1,(seqs [x89_2,x89_12]),x89_13,.rt])
theorem k_89 : ecF Tryd.prog 89 = some (48, c_syntax_stmt_89, [.tm 2]) := by kernel_rfl

/-- (tallystone/check.checker).operands -/
def x90_0:EC:=.rg [o 3 .box [t 0],o 4 .box [t 1]] false
@[simp]def e90_0:=rgF x90_0 rfl
def x90_1:EC:=.rg [o 6 .mv [b false]] false
@[simp]def e90_1:=rgF x90_1 rfl
def x90_2:EC:=.rg [o 9 (.faddr 5) [t 4],o 10 (.load 1 false) [t 9],o 11 .lenL [t 10],o 12 .mv [i 0]] false
@[simp]def e90_2:=rgF x90_2 rfl
def x90_3:EC:=.rg [o 13 (.bin .lss) [t 12, t 11]] false
@[simp]def e90_3:=rgF x90_3 rfl
def x90_4:EC:=.cd (t 13) .skip (.ex 0)
@[simp]def e90_4:=cdF x90_4 rfl
def x90_5:EC:=.rg [o 14 (.iaS 6) [t 10, t 12],o 15 (.load 6 true) [t 14],o 8 (.alloc [.t (.int .i64 0), .t (.int .i64 0), .t (.int .i64 0), .t (.int .i64 0), .t (.str []), .snil]) [],u (.store 6) [t 8, t 15]] false
@[simp]def e90_5:=rgF x90_5 rfl
def x90_6:EC:=.rg [o 16 (.load 2 true) [t 3],o 17 (.load 6 true) [t 8],o 18 (.call 53) [t 16, t 17],m 19 2,o 20 (.bin .neq) [t 18, t 19],m 21 20,n 22 21 .mv [t 6],o 23 .pick [t 21, b true, t 22],m 6 23] false
@[simp]def e90_6:=rgF x90_6 rfl
def x90_7:EC:=.bk 1 (seqs [x90_5,x90_6])
@[simp]def e90_7:=bkF x90_7 rfl
def x90_8:EC:=.rg [o 24 (.bin .add) [t 12, i 1],m 12 24] false
@[simp]def e90_8:=rgF x90_8 rfl
def x90_9:EC:=.bk 0 (.lp (seqs [x90_3,x90_4,x90_7,x90_8]))
@[simp]def e90_9:=bkF x90_9 rfl
def x90_10:EC:=.rg [m 25 6] false
@[simp]def e90_10:=rgF x90_10 rfl
def x90_11:EC:=.rg [o 26 (.mki 143) [i 16],u .pan [t 26]] false
@[simp]def e90_11:=rgF x90_11 rfl
def x90_12:EC:=.cd (t 25) x90_11 .skip
@[simp]def e90_12:=cdF x90_12 rfl
def c_check_checker__operands_90 : EC := (seqs [x90_0,x90_1,(seqs [x90_2,x90_9]),x90_10,x90_12])
theorem k_90 : ecF Tryd.prog 90 = some (27, c_check_checker__operands_90, []) := by kernel_rfl

/-- tallystone/tallystoneref33.kind -/
def x91_0:EC:=.rg [o 2 .mv [i 0],o 3 .mv [i 0]] false
@[simp]def e91_0:=rgF x91_0 rfl
def x91_1:EC:=.rg [m 5 0,o 6 (.bin .eql) [t 5, i 6],m 7 6,n 8 7 .mv [t 0],n 9 7 (.bin .eql) [t 8, i 12],o 10 .pick [t 7, b true, t 9],m 11 10,n 12 11 .mv [t 0],n 13 11 (.bin .eql) [t 12, i 13],o 14 .pick [t 11, b true, t 13],m 4 14] false
@[simp]def e91_1:=rgF x91_1 rfl
def x91_2:EC:=.rg [o 2 .mv [i 2],o 3 .mv [i 2]] false
@[simp]def e91_2:=rgF x91_2 rfl
def x91_3:EC:=.rg [m 16 0,o 17 (.bin .geq) [t 16, i 14],m 18 17,y 19 18 .mv [t 0],y 20 18 (.bin .leq) [t 19, i 19],o 21 .pick [t 18, t 20, b false],m 15 21] false
@[simp]def e91_3:=rgF x91_3 rfl
def x91_4:EC:=.rg [o 2 .mv [i 2],o 3 .mv [i 1]] false
@[simp]def e91_4:=rgF x91_4 rfl
def x91_5:EC:=.cd (t 15) (seqs [x91_4,.rt]) .skip
@[simp]def e91_5:=cdF x91_5 rfl
def x91_6:EC:=.cd (t 4) (seqs [x91_2,.rt]) (seqs [x91_3,x91_5])
@[simp]def e91_6:=cdF x91_6 rfl
def x91_7:EC:=.bk 0 (seqs [x91_1,x91_6])
@[simp]def e91_7:=bkF x91_7 rfl
def x91_8:EC:=.rg [o 2 .mv [i 1],o 3 .mv [i 1]] false
@[simp]def e91_8:=rgF x91_8 rfl
def c_tallystoneref33_kind_91 : EC := (seqs [x91_0,x91_7,x91_8,.rt])
theorem k_91 : ecF Tryd.prog 91 = some (22, c_tallystoneref33_kind_91, [.tm 2, .tm 3]) := by kernel_rfl

/-- internal/strconv.Itoa -/
def x96_0:EC:=.rg [o 2 .mv [c (.t (.str []))]] false
@[simp]def e96_0:=rgF x96_0 rfl
def x96_1:EC:=.rg [m 3 0,o 4 (.call 119) [t 3, i 10],m 2 4] false
@[simp]def e96_1:=rgF x96_1 rfl
def c_strconv_Itoa_96 : EC := (seqs [x96_0,x96_1,.rt])
theorem k_96 : ecF Tryd.prog 96 = some (5, c_strconv_Itoa_96, [.tm 2]) := by kernel_rfl

/-- tallystone/chart.proper -/
def x97_0:EC:=.rg [o 4 .box [t 1],o 6 .mv [b false]] false
@[simp]def e97_0:=rgF x97_0 rfl
def x97_1:EC:=.rg [o 12 (.faddr 0) [t 4],o 13 (.load 1 false) [t 12],o 14 (.bin .lss) [t 13, i 1],m 15 14,n 16 15 (.faddr 0) [t 4],n 17 15 (.load 1 false) [t 16],n 18 15 (.bin .gtr) [t 17, i 99999],o 19 .pick [t 15, b true, t 18],m 20 19,n 21 20 (.faddr 1) [t 4],n 22 20 (.load 1 false) [t 21],n 23 20 (.bin .lss) [t 22, i 1],o 24 .pick [t 20, b true, t 23],m 25 24,n 26 25 (.faddr 1) [t 4],n 27 25 (.load 1 false) [t 26],n 28 25 (.bin .gtr) [t 27, i 5],o 29 .pick [t 25, b true, t 28]] false
@[simp]def e97_1:=rgF x97_1 rfl
def x97_2:EC:=.rg [o 6 .mv [b false]] false
@[simp]def e97_2:=rgF x97_2 rfl
def x97_3:EC:=.cd (t 29) (seqs [x97_2,.rt]) .skip
@[simp]def e97_3:=cdF x97_3 rfl
def x97_4:EC:=.rg [m 30 2,m 31 30,y 32 31 (.faddr 2) [t 4],y 33 31 (.load 1 false) [t 32],y 34 31 (.bin .lss) [t 33, i 1],y 35 31 .mv [t 34],n 36 35 (.faddr 2) [t 4],n 37 35 (.load 1 false) [t 36],n 38 35 (.bin .gtr) [t 37, i 3],y 39 31 .pick [t 35, b true, t 38],o 40 .pick [t 31, t 39, b false],m 41 40,n 42 41 .mv [t 2],n 43 41 (.un .not) [t 42],n 44 41 .mv [t 43],y 45 44 (.faddr 2) [t 4],y 46 44 (.load 1 false) [t 45],y 47 44 (.bin .neq) [t 46, i 0],n 48 41 .pick [t 44, t 47, b false],o 49 .pick [t 41, b true, t 48]] false
@[simp]def e97_4:=rgF x97_4 rfl
def x97_5:EC:=.rg [o 6 .mv [b false]] false
@[simp]def e97_5:=rgF x97_5 rfl
def x97_6:EC:=.cd (t 49) (seqs [x97_5,.rt]) .skip
@[simp]def e97_6:=cdF x97_6 rfl
def x97_7:EC:=.rg [o 50 (.faddr 3) [t 4],o 51 (.load 1 false) [t 50],o 52 (.bin .eql) [t 51, i 0]] false
@[simp]def e97_7:=rgF x97_7 rfl
def x97_8:EC:=.rg [o 6 .mv [b true]] false
@[simp]def e97_8:=rgF x97_8 rfl
def x97_9:EC:=.cd (t 52) (seqs [x97_8,.rt]) .skip
@[simp]def e97_9:=cdF x97_9 rfl
def x97_10:EC:=.rg [m 54 0,o 55 (.faddr 3) [t 4],o 56 (.load 1 false) [t 55],o 57 (.call 120) [t 54, t 56],m 53 57,o 58 (.ext 0) [t 53],o 59 (.ext 1) [t 53],o 7 (.alloc [.t (.int .i64 0), .t (.int .i64 0), .t (.int .i64 0), .t (.int .i64 0)]) [],u (.store 4) [t 7, t 58],m 8 59] false
@[simp]def e97_10:=rgF x97_10 rfl
def x97_11:EC:=.rg [m 60 8,o 61 (.un .not) [t 60],m 62 61,n 63 62 (.faddr 0) [t 7],n 64 62 (.load 1 false) [t 63],n 65 62 (.faddr 0) [t 4],n 66 62 (.load 1 false) [t 65],n 67 62 (.bin .eql) [t 64, t 66],o 68 .pick [t 62, b true, t 67],m 69 68,n 70 69 (.faddr 1) [t 7],n 71 69 (.load 1 false) [t 70],n 72 69 (.faddr 1) [t 4],n 73 69 (.load 1 false) [t 72],n 74 69 (.bin .neq) [t 71, t 73],o 75 .pick [t 69, b true, t 74]] false
@[simp]def e97_11:=rgF x97_11 rfl
def x97_12:EC:=.rg [o 6 .mv [b false]] false
@[simp]def e97_12:=rgF x97_12 rfl
def x97_13:EC:=.cd (t 75) (seqs [x97_12,.rt]) .skip
@[simp]def e97_13:=cdF x97_13 rfl
def x97_14:EC:=.rg [m 76 0,o 77 (.faddr 0) [t 4],o 78 (.load 1 false) [t 77],o 79 (.call 121) [t 76, t 78],m 9 79] false
@[simp]def e97_14:=rgF x97_14 rfl
def x97_15:EC:=.rg [m 81 0,m 82 9,m 83 9,o 84 .lenL [t 83],o 85 (.bin .sub) [t 84, i 1],o 86 (.iaS 1) [t 82, t 85],o 87 (.load 1 false) [t 86],o 88 (.call 120) [t 81, t 87],m 80 88,o 89 (.ext 0) [t 80],o 90 (.ext 1) [t 80],o 10 (.alloc [.t (.int .i64 0), .t (.int .i64 0), .t (.int .i64 0), .t (.int .i64 0)]) [],u (.store 4) [t 10, t 89],m 11 90] false
@[simp]def e97_15:=rgF x97_15 rfl
def x97_16:EC:=.rg [o 91 (.faddr 3) [t 10],o 92 (.load 1 false) [t 91],o 93 (.bin .eql) [t 92, i 0],m 6 93] false
@[simp]def e97_16:=rgF x97_16 rfl
def c_chart_proper_97 : EC := (seqs [x97_0,(seqs [x97_1,x97_3]),(seqs [x97_4,x97_6]),(seqs [x97_7,x97_9]),x97_10,(seqs [x97_11,x97_13]),x97_14,x97_15,x97_16,.rt])
theorem k_97 : ecF Tryd.prog 97 = some (94, c_chart_proper_97, [.tm 6]) := by kernel_rfl

/-- (tallystone/check.checker).stmt -/
def x99_0:EC:=.rg [o 3 .box [t 0],o 4 .box [t 1]] false
@[simp]def e99_0:=rgF x99_0 rfl
def x99_1:EC:=.rg [o 6 .mv [i 1]] false
@[simp]def e99_1:=rgF x99_1 rfl
def x99_2:EC:=.rg [o 7 (.faddr 0) [t 4],o 8 (.load 1 false) [t 7],o 9 (.bin .eql) [t 8, i 2]] false
@[simp]def e99_2:=rgF x99_2 rfl
def x99_3:EC:=.rg [o 6 .mv [i 2]] false
@[simp]def e99_3:=rgF x99_3 rfl
def x99_4:EC:=.cd (t 9) x99_3 .skip
@[simp]def e99_4:=cdF x99_4 rfl
def x99_5:EC:=.rg [o 10 (.load 2 true) [t 3],o 11 (.faddr 3) [t 4],o 12 (.load 6 true) [t 11],o 13 (.call 53) [t 10, t 12],m 14 6,o 15 (.bin .neq) [t 13, t 14]] false
@[simp]def e99_5:=rgF x99_5 rfl
def x99_6:EC:=.rg [o 16 (.mki 143) [i 16],u .pan [t 16]] false
@[simp]def e99_6:=rgF x99_6 rfl
def x99_7:EC:=.cd (t 15) x99_6 .skip
@[simp]def e99_7:=cdF x99_7 rfl
def x99_8:EC:=.rg [o 17 (.faddr 0) [t 4],o 18 (.load 1 false) [t 17]] false
@[simp]def e99_8:=rgF x99_8 rfl
def x99_9:EC:=.rg [o 20 (.bin .eql) [t 18, i 1],m 19 20] false
@[simp]def e99_9:=rgF x99_9 rfl
def x99_10:EC:=.rg [o 21 (.faddr 0) [t 3],o 22 (.load 1 false) [t 21],o 23 (.faddr 2) [t 4],o 24 (.load 1 false) [t 23],o 25 (.lkp false [2] false false [.t (.bool false)]) [t 22, t 24]] false
@[simp]def e99_10:=rgF x99_10 rfl
def x99_11:EC:=.rg [o 26 (.mki 143) [i 9],u .pan [t 26]] false
@[simp]def e99_11:=rgF x99_11 rfl
def x99_12:EC:=.cd (t 25) x99_11 .skip
@[simp]def e99_12:=cdF x99_12 rfl
def x99_13:EC:=.rg [o 27 (.faddr 0) [t 3],o 28 (.load 1 false) [t 27],o 29 (.faddr 2) [t 4],o 30 (.load 1 false) [t 29],u (.mup false [2]) [t 28, t 30, b true]] false
@[simp]def e99_13:=rgF x99_13 rfl
def x99_14:EC:=.rg [o 32 (.bin .eql) [t 18, i 3],m 31 32] false
@[simp]def e99_14:=rgF x99_14 rfl
def x99_15:EC:=.rg [o 33 (.load 2 true) [t 3],o 34 (.faddr 1) [t 4],o 35 (.load 1 false) [t 34],m 36 2,o 37 (.call 100) [t 33, t 35, t 36]] false
@[simp]def e99_15:=rgF x99_15 rfl
def x99_16:EC:=.cd (t 31) x99_15 .skip
@[simp]def e99_16:=cdF x99_16 rfl
def x99_17:EC:=.cd (t 19) (seqs [(seqs [x99_10,x99_12]),x99_13]) (seqs [x99_14,x99_16])
@[simp]def e99_17:=cdF x99_17 rfl
def x99_18:EC:=.bk 0 (seqs [x99_9,x99_17])
@[simp]def e99_18:=bkF x99_18 rfl
def c_check_checker__stmt_99 : EC := (seqs [x99_0,x99_1,(seqs [x99_2,x99_4]),(seqs [x99_5,x99_7]),x99_8,x99_18])
theorem k_99 : ecF Tryd.prog 99 = some (38, c_check_checker__stmt_99, []) := by kernel_rfl

/-- (tallystone/check.checker).account -/
def x100_0:EC:=.rg [o 3 .box [t 0]] false
@[simp]def e100_0:=rgF x100_0 rfl
def x100_1:EC:=.rg [m 9 2,m 10 1,o 11 (.call 120) [t 9, t 10],m 8 11,o 12 (.ext 0) [t 8],o 13 (.ext 1) [t 8],o 6 (.alloc [.t (.int .i64 0), .t (.int .i64 0), .t (.int .i64 0), .t (.int .i64 0)]) [],u (.store 4) [t 6, t 12],m 7 13] false
@[simp]def e100_1:=rgF x100_1 rfl
def x100_2:EC:=.rg [m 14 7,o 15 (.un .not) [t 14]] false
@[simp]def e100_2:=rgF x100_2 rfl
def x100_3:EC:=.rg [o 16 (.mki 143) [i 8],u .pan [t 16]] false
@[simp]def e100_3:=rgF x100_3 rfl
def x100_4:EC:=.cd (t 15) x100_3 .skip
@[simp]def e100_4:=cdF x100_4 rfl
def c_check_checker__account_100 : EC := (seqs [x100_0,x100_1,x100_2,x100_4])
theorem k_100 : ecF Tryd.prog 100 = some (17, c_check_checker__account_100, []) := by kernel_rfl

/-- tallystone/tallystoneref08.proper -/
def x101_0:EC:=.rg [o 4 .box [t 1],o 6 .mv [b false]] false
@[simp]def e101_0:=rgF x101_0 rfl
def x101_1:EC:=.rg [o 9 (.faddr 0) [t 4],o 10 (.load 1 false) [t 9],o 11 (.bin .lss) [t 10, i 1],m 12 11,n 13 12 (.faddr 0) [t 4],n 14 12 (.load 1 false) [t 13],n 15 12 (.bin .gtr) [t 14, i 99999],o 16 .pick [t 12, b true, t 15],m 17 16,n 18 17 (.faddr 1) [t 4],n 19 17 (.load 1 false) [t 18],n 20 17 (.bin .lss) [t 19, i 1],o 21 .pick [t 17, b true, t 20],m 22 21,n 23 22 (.faddr 1) [t 4],n 24 22 (.load 1 false) [t 23],n 25 22 (.bin .gtr) [t 24, i 5],o 26 .pick [t 22, b true, t 25]] false
@[simp]def e101_1:=rgF x101_1 rfl
def x101_2:EC:=.rg [o 6 .mv [b false]] false
@[simp]def e101_2:=rgF x101_2 rfl
def x101_3:EC:=.cd (t 26) (seqs [x101_2,.rt]) .skip
@[simp]def e101_3:=cdF x101_3 rfl
def x101_4:EC:=.rg [m 27 2,m 28 27,y 29 28 (.faddr 2) [t 4],y 30 28 (.load 1 false) [t 29],y 31 28 (.bin .lss) [t 30, i 1],y 32 28 .mv [t 31],n 33 32 (.faddr 2) [t 4],n 34 32 (.load 1 false) [t 33],n 35 32 (.bin .gtr) [t 34, i 3],y 36 28 .pick [t 32, b true, t 35],o 37 .pick [t 28, t 36, b false],m 38 37,n 39 38 .mv [t 2],n 40 38 (.un .not) [t 39],n 41 38 .mv [t 40],y 42 41 (.faddr 2) [t 4],y 43 41 (.load 1 false) [t 42],y 44 41 (.bin .neq) [t 43, i 0],n 45 38 .pick [t 41, t 44, b false],o 46 .pick [t 38, b true, t 45]] false
@[simp]def e101_4:=rgF x101_4 rfl
def x101_5:EC:=.rg [o 6 .mv [b false]] false
@[simp]def e101_5:=rgF x101_5 rfl
def x101_6:EC:=.cd (t 46) (seqs [x101_5,.rt]) .skip
@[simp]def e101_6:=cdF x101_6 rfl
def x101_7:EC:=.rg [o 47 (.faddr 3) [t 4],o 48 (.load 1 false) [t 47],o 49 (.bin .eql) [t 48, i 0]] false
@[simp]def e101_7:=rgF x101_7 rfl
def x101_8:EC:=.rg [o 6 .mv [b true]] false
@[simp]def e101_8:=rgF x101_8 rfl
def x101_9:EC:=.cd (t 49) (seqs [x101_8,.rt]) .skip
@[simp]def e101_9:=cdF x101_9 rfl
def x101_10:EC:=.rg [m 51 0,o 52 (.faddr 3) [t 4],o 53 (.load 1 false) [t 52],o 54 (.call 122) [t 51, t 53],m 50 54,o 55 (.ext 0) [t 50],o 56 (.ext 1) [t 50],o 7 (.alloc [.t (.int .i64 0), .t (.int .i64 0), .t (.int .i64 0), .t (.int .i64 0)]) [],u (.store 4) [t 7, t 55],m 8 56] false
@[simp]def e101_10:=rgF x101_10 rfl
def x101_11:EC:=.rg [m 57 8,m 58 57,y 59 58 (.faddr 0) [t 7],y 60 58 (.load 1 false) [t 59],y 61 58 (.faddr 0) [t 4],y 62 58 (.load 1 false) [t 61],y 63 58 (.bin .neq) [t 60, t 62],o 64 .pick [t 58, t 63, b false],m 65 64,y 66 65 (.faddr 1) [t 7],y 67 65 (.load 1 false) [t 66],y 68 65 (.faddr 1) [t 4],y 69 65 (.load 1 false) [t 68],y 70 65 (.bin .eql) [t 67, t 69],o 71 .pick [t 65, t 70, b false],m 6 71] false
@[simp]def e101_11:=rgF x101_11 rfl
def c_tallystoneref08_proper_101 : EC := (seqs [x101_0,(seqs [x101_1,x101_3]),(seqs [x101_4,x101_6]),(seqs [x101_7,x101_9]),x101_10,x101_11,.rt])
theorem k_101 : ecF Tryd.prog 101 = some (72, c_tallystoneref08_proper_101, [.tm 6]) := by kernel_rfl

/-- tallystone/tallystoneref08.climb -/
def x102_0:EC:=.rg [o 4 .mv [c (.snil)]] false
@[simp]def e102_0:=rgF x102_0 rfl
def x102_1:EC:=.rg [o 5 .mv [c (.snil)]] false
@[simp]def e102_1:=rgF x102_1 rfl
def x102_2:EC:=.rg [o 6 .mv [i 0]] false
@[simp]def e102_2:=rgF x102_2 rfl
def x102_3:EC:=.rg [m 9 6,m 10 0,o 11 .lenL [t 10],o 12 (.bin .leq) [t 9, t 11]] false
@[simp]def e102_3:=rgF x102_3 rfl
def x102_4:EC:=.cd (t 12) .skip (.ex 0)
@[simp]def e102_4:=cdF x102_4 rfl
def x102_5:EC:=.rg [m 16 0,m 17 1,o 18 (.call 122) [t 16, t 17],m 15 18,o 19 (.ext 0) [t 15],o 20 (.ext 1) [t 15],o 7 (.alloc [.t (.int .i64 0), .t (.int .i64 0), .t (.int .i64 0), .t (.int .i64 0)]) [],u (.store 4) [t 7, t 19],m 8 20] false
@[simp]def e102_5:=rgF x102_5 rfl
def x102_6:EC:=.rg [m 21 8,o 22 (.un .not) [t 21]] false
@[simp]def e102_6:=rgF x102_6 rfl
def x102_7:EC:=.cd (t 22) (.ex 0) .skip
@[simp]def e102_7:=cdF x102_7 rfl
def x102_8:EC:=.rg [m 23 5,m 24 1,o 25 (.bsl 1) [t 24],o 26 (.app 3 1 8) [t 23, t 25],m 5 26] false
@[simp]def e102_8:=rgF x102_8 rfl
def x102_9:EC:=.rg [o 27 (.faddr 3) [t 7],o 28 (.load 1 false) [t 27],m 1 28] false
@[simp]def e102_9:=rgF x102_9 rfl
def x102_10:EC:=.bk 1 (seqs [x102_5,(seqs [x102_6,x102_7]),x102_8,x102_9])
@[simp]def e102_10:=bkF x102_10 rfl
def x102_11:EC:=.rg [m 13 6,o 14 (.bin .add) [t 13, i 1],m 6 14] false
@[simp]def e102_11:=rgF x102_11 rfl
def x102_12:EC:=.bk 0 (.lp (seqs [(seqs [x102_3,x102_4]),x102_10,x102_11]))
@[simp]def e102_12:=bkF x102_12 rfl
def x102_13:EC:=.rg [m 29 5,m 4 29] false
@[simp]def e102_13:=rgF x102_13 rfl
def c_tallystoneref08_climb_102 : EC := (seqs [x102_0,x102_1,(seqs [x102_2,x102_12]),x102_13,.rt])
theorem k_102 : ecF Tryd.prog 102 = some (30, c_tallystoneref08_climb_102, [.tm 4]) := by kernel_rfl

/-- tallystone/tallystoneref08.climb, with slices that grow in boxes -/
def xb102_0:EC:=.rg [o 4 .mv [c (.snil)]] false
@[simp]def eb102_0:=rgF xb102_0 rfl
def xb102_1:EC:=.rg [o 5 .mv [c (.snil)]] false
@[simp]def eb102_1:=rgF xb102_1 rfl
def xb102_2:EC:=.rg [o 6 .mv [i 0]] false
@[simp]def eb102_2:=rgF xb102_2 rfl
def xb102_3:EC:=.rg [m 9 6,m 10 0,o 11 .lenL [t 10],o 12 (.bin .leq) [t 9, t 11]] false
@[simp]def eb102_3:=rgF xb102_3 rfl
def xb102_4:EC:=.cd (t 12) .skip (.ex 0)
@[simp]def eb102_4:=cdF xb102_4 rfl
def xb102_5:EC:=.rg [m 16 0,m 17 1,o 18 (.call 122) [t 16, t 17],m 15 18,o 19 (.ext 0) [t 15],o 20 (.ext 1) [t 15],o 7 (.alloc [.t (.int .i64 0), .t (.int .i64 0), .t (.int .i64 0), .t (.int .i64 0)]) [],u (.store 4) [t 7, t 19],m 8 20] false
@[simp]def eb102_5:=rgF xb102_5 rfl
def xb102_6:EC:=.rg [m 21 8,o 22 (.un .not) [t 21]] false
@[simp]def eb102_6:=rgF xb102_6 rfl
def xb102_7:EC:=.cd (t 22) (.ex 0) .skip
@[simp]def eb102_7:=cdF xb102_7 rfl
def xb102_8:EC:=.rg [m 23 5,m 24 1,o 25 (.bsl 1) [t 24],o 26 (.appB 3 1 8) [t 23, t 25],m 5 26] false
@[simp]def eb102_8:=rgF xb102_8 rfl
def xb102_9:EC:=.rg [o 27 (.faddr 3) [t 7],o 28 (.load 1 false) [t 27],m 1 28] false
@[simp]def eb102_9:=rgF xb102_9 rfl
def xb102_10:EC:=.bk 1 (seqs [xb102_5,(seqs [xb102_6,xb102_7]),xb102_8,xb102_9])
@[simp]def eb102_10:=bkF xb102_10 rfl
def xb102_11:EC:=.rg [m 13 6,o 14 (.bin .add) [t 13, i 1],m 6 14] false
@[simp]def eb102_11:=rgF xb102_11 rfl
def xb102_12:EC:=.bk 0 (.lp (seqs [(seqs [xb102_3,xb102_4]),xb102_10,xb102_11]))
@[simp]def eb102_12:=bkF xb102_12 rfl
def xb102_13:EC:=.rg [m 29 5,m 4 29] false
@[simp]def eb102_13:=rgF xb102_13 rfl
def b_tallystoneref08_climb_102 : EC := (seqs [xb102_0,xb102_1,(seqs [xb102_2,xb102_12]),xb102_13,.rt])
theorem kb_102 : ecB Tryd.prog 102 = some (30, b_tallystoneref08_climb_102, [.tm 4]) := by kernel_rfl

/-- tallystone/tallystoneref33.known -/
def x103_0:EC:=.rg [o 4 .mv [b false]] false
@[simp]def e103_0:=rgF x103_0 rfl
def x103_1:EC:=.rg [m 8 0,m 9 1,o 10 (.call 122) [t 8, t 9],m 7 10,o 11 (.ext 0) [t 7],o 12 (.ext 1) [t 7],o 5 (.alloc [.t (.int .i64 0), .t (.int .i64 0), .t (.int .i64 0), .t (.int .i64 0)]) [],u (.store 4) [t 5, t 11],m 6 12] false
@[simp]def e103_1:=rgF x103_1 rfl
def x103_2:EC:=.rg [m 13 6,m 4 13] false
@[simp]def e103_2:=rgF x103_2 rfl
def c_tallystoneref33_known_103 : EC := (seqs [x103_0,x103_1,x103_2,.rt])
theorem k_103 : ecF Tryd.prog 103 = some (14, c_tallystoneref33_known_103, [.tm 4]) := by kernel_rfl

/-- tallystone/tallystoneref31.Keyword -/
def x104_0:EC:=.rg [o 2 .mv [b false]] false
@[simp]def e104_0:=rgF x104_0 rfl
def x104_1:EC:=.rg [o 3 (.bsl 1) [c (.t (.str [114, 117, 108, 101])), c (.t (.str [101, 97, 99, 104])), c (.t (.str [101, 110, 116, 105, 116, 121])), c (.t (.str [112, 97, 105, 114])), c (.t (.str [108, 101, 116])), c (.t (.str [114, 101, 113, 117, 105, 114, 101])), c (.t (.str [112, 111, 115, 116])), c (.t (.str [116, 111])), c (.t (.str [112, 101, 114])), c (.t (.str [97, 110, 100])), c (.t (.str [111, 114])), c (.t (.str [110, 111, 116])), c (.t (.str [109, 105, 110])), c (.t (.str [109, 97, 120])), c (.t (.str [97, 98, 115])), c (.t (.str [98, 97, 108, 97, 110, 99, 101])), c (.t (.str [112, 97, 114, 116, 110, 101, 114])), c (.t (.str [115, 104, 97, 114, 101]))],m 4 0,o 5 (.call 37) [t 3, t 4],m 2 5] false
@[simp]def e104_1:=rgF x104_1 rfl
def c_tallystoneref31_Keyword_104 : EC := (seqs [x104_0,x104_1,.rt])
theorem k_104 : ecF Tryd.prog 104 = some (6, c_tallystoneref31_Keyword_104, [.tm 2]) := by kernel_rfl

/-- tallystone/tallystoneref32.args -/
def x105_0:EC:=.rg [o 2 .mv [i 0]] false
@[simp]def e105_0:=rgF x105_0 rfl
def x105_1:EC:=.rg [m 4 0,o 5 (.bin .eql) [t 4, i 1],m 6 5,n 7 6 .mv [t 0],n 8 6 (.bin .eql) [t 7, i 2],o 9 .pick [t 6, b true, t 8],m 10 9,n 11 10 .mv [t 0],n 12 10 (.bin .eql) [t 11, i 21],o 13 .pick [t 10, b true, t 12],m 14 13,n 15 14 .mv [t 0],n 16 14 (.bin .eql) [t 15, i 22],o 17 .pick [t 14, b true, t 16],m 3 17] false
@[simp]def e105_1:=rgF x105_1 rfl
def x105_2:EC:=.rg [o 2 .mv [i 0]] false
@[simp]def e105_2:=rgF x105_2 rfl
def x105_3:EC:=.rg [m 19 0,o 20 (.bin .geq) [t 19, i 3],m 21 20,y 22 21 .mv [t 0],y 23 21 (.bin .leq) [t 22, i 6],o 24 .pick [t 21, t 23, b false],m 25 24,n 26 25 .mv [t 0],n 27 25 (.bin .eql) [t 26, i 20],o 28 .pick [t 25, b true, t 27],m 18 28] false
@[simp]def e105_3:=rgF x105_3 rfl
def x105_4:EC:=.rg [o 2 .mv [i 1]] false
@[simp]def e105_4:=rgF x105_4 rfl
def x105_5:EC:=.rg [m 30 0,o 31 (.bin .geq) [t 30, i 7],m 32 31,y 33 32 .mv [t 0],y 34 32 (.bin .leq) [t 33, i 19],o 35 .pick [t 32, t 34, b false],m 29 35] false
@[simp]def e105_5:=rgF x105_5 rfl
def x105_6:EC:=.rg [o 2 .mv [i 2]] false
@[simp]def e105_6:=rgF x105_6 rfl
def x105_7:EC:=.cd (t 29) (seqs [x105_6,.rt]) .skip
@[simp]def e105_7:=cdF x105_7 rfl
def x105_8:EC:=.cd (t 18) (seqs [x105_4,.rt]) (seqs [x105_5,x105_7])
@[simp]def e105_8:=cdF x105_8 rfl
def x105_9:EC:=.cd (t 3) (seqs [x105_2,.rt]) (seqs [x105_3,x105_8])
@[simp]def e105_9:=cdF x105_9 rfl
def x105_10:EC:=.bk 0 (seqs [x105_1,x105_9])
@[simp]def e105_10:=bkF x105_10 rfl
def x105_11:EC:=.rg [o 2 .mv [i (-1)]] false
@[simp]def e105_11:=rgF x105_11 rfl
def c_tallystoneref32_args_105 : EC := (seqs [x105_0,x105_10,x105_11,.rt])
theorem k_105 : ecF Tryd.prog 105 = some (36, c_tallystoneref32_args_105, [.tm 2]) := by kernel_rfl

/-- slices.pdqsortOrdered[int] -/
def x106_0:EC:=.rg [o 8 .mv [b true]] false
@[simp]def e106_0:=rgF x106_0 rfl
def x106_1:EC:=.rg [o 9 .mv [b true]] false
@[simp]def e106_1:=rgF x106_1 rfl
def x106_2:EC:=.rg [m 19 2,m 20 1,o 21 (.bin .sub) [t 19, t 20],m 10 21] false
@[simp]def e106_2:=rgF x106_2 rfl
def x106_3:EC:=.rg [m 22 10,o 23 (.bin .leq) [t 22, i 12]] false
@[simp]def e106_3:=rgF x106_3 rfl
def x106_4:EC:=.rg [m 24 0,m 25 1,m 26 2,o 27 (.call 123) [t 24, t 25, t 26]] false
@[simp]def e106_4:=rgF x106_4 rfl
def x106_5:EC:=.cd (t 23) (seqs [x106_4,.rt]) .skip
@[simp]def e106_5:=cdF x106_5 rfl
def x106_6:EC:=.rg [m 28 3,o 29 (.bin .eql) [t 28, i 0]] false
@[simp]def e106_6:=rgF x106_6 rfl
def x106_7:EC:=.rg [m 30 0,m 31 1,m 32 2,o 33 (.call 124) [t 30, t 31, t 32]] false
@[simp]def e106_7:=rgF x106_7 rfl
def x106_8:EC:=.cd (t 29) (seqs [x106_7,.rt]) .skip
@[simp]def e106_8:=cdF x106_8 rfl
def x106_9:EC:=.rg [m 34 8,o 35 (.un .not) [t 34]] false
@[simp]def e106_9:=rgF x106_9 rfl
def x106_10:EC:=.rg [m 36 0,m 37 1,m 38 2,o 39 (.call 125) [t 36, t 37, t 38]] false
@[simp]def e106_10:=rgF x106_10 rfl
def x106_11:EC:=.rg [m 40 3,o 41 (.bin .sub) [t 40, i 1],m 3 41] false
@[simp]def e106_11:=rgF x106_11 rfl
def x106_12:EC:=.cd (t 35) (seqs [x106_10,x106_11]) .skip
@[simp]def e106_12:=cdF x106_12 rfl
def x106_13:EC:=.rg [m 43 0,m 44 1,m 45 2,o 46 (.call 126) [t 43, t 44, t 45],m 42 46,o 47 (.ext 0) [t 42],o 48 (.ext 1) [t 42],m 11 47,m 12 48] false
@[simp]def e106_13:=rgF x106_13 rfl
def x106_14:EC:=.rg [m 49 12,o 50 (.bin .eql) [t 49, i 2]] false
@[simp]def e106_14:=rgF x106_14 rfl
def x106_15:EC:=.rg [m 51 0,m 52 1,m 53 2,o 54 (.call 127) [t 51, t 52, t 53]] false
@[simp]def e106_15:=rgF x106_15 rfl
def x106_16:EC:=.rg [m 55 2,o 56 (.bin .sub) [t 55, i 1],m 57 11,m 58 1,o 59 (.bin .sub) [t 57, t 58],o 60 (.bin .sub) [t 56, t 59],m 11 60] false
@[simp]def e106_16:=rgF x106_16 rfl
def x106_17:EC:=.rg [o 12 .mv [i 1]] false
@[simp]def e106_17:=rgF x106_17 rfl
def x106_18:EC:=.cd (t 50) (seqs [x106_15,x106_16,x106_17]) .skip
@[simp]def e106_18:=cdF x106_18 rfl
def x106_19:EC:=.rg [m 61 8,m 62 61,y 63 62 .mv [t 9],o 64 .pick [t 62, t 63, b false],m 65 64,y 66 65 .mv [t 12],y 67 65 (.bin .eql) [t 66, i 1],o 68 .pick [t 65, t 67, b false]] false
@[simp]def e106_19:=rgF x106_19 rfl
def x106_20:EC:=.rg [m 69 0,m 70 1,m 71 2,o 72 (.call 128) [t 69, t 70, t 71]] false
@[simp]def e106_20:=rgF x106_20 rfl
def x106_21:EC:=.cd (t 72) .rt .skip
@[simp]def e106_21:=cdF x106_21 rfl
def x106_22:EC:=.cd (t 68) (seqs [x106_20,x106_21]) .skip
@[simp]def e106_22:=cdF x106_22 rfl
def x106_23:EC:=.rg [m 73 1,o 74 (.bin .gtr) [t 73, i 0],m 75 74,y 76 75 .mv [t 0],y 77 75 .mv [t 1],y 78 75 (.bin .sub) [t 77, i 1],y 79 75 (.iaS 1) [t 76, t 78],y 80 75 (.load 1 false) [t 79],y 81 75 .mv [t 0],y 82 75 .mv [t 11],y 83 75 (.iaS 1) [t 81, t 82],y 84 75 (.load 1 false) [t 83],y 85 75 (.call 129) [t 80, t 84],y 86 75 (.un .not) [t 85],o 87 .pick [t 75, t 86, b false]] true
@[simp]def e106_23:=rgF x106_23 rfl
def x106_24:EC:=.rg [m 88 0,m 89 1,m 90 2,m 91 11,o 92 (.call 130) [t 88, t 89, t 90, t 91],m 13 92] false
@[simp]def e106_24:=rgF x106_24 rfl
def x106_25:EC:=.rg [m 93 13,m 1 93] false
@[simp]def e106_25:=rgF x106_25 rfl
def x106_26:EC:=.cd (t 87) (seqs [x106_24,x106_25,(.ex 1)]) .skip
@[simp]def e106_26:=cdF x106_26 rfl
def x106_27:EC:=.rg [m 95 0,m 96 1,m 97 2,m 98 11,o 99 (.call 131) [t 95, t 96, t 97, t 98],m 94 99,o 100 (.ext 0) [t 94],o 101 (.ext 1) [t 94],m 14 100,m 15 101] false
@[simp]def e106_27:=rgF x106_27 rfl
def x106_28:EC:=.rg [m 102 15,m 9 102] false
@[simp]def e106_28:=rgF x106_28 rfl
def x106_29:EC:=.rg [m 103 14,m 104 1,o 105 (.bin .sub) [t 103, t 104],m 106 2,m 107 14,o 108 (.bin .sub) [t 106, t 107],m 16 105,m 17 108] false
@[simp]def e106_29:=rgF x106_29 rfl
def x106_30:EC:=.rg [m 109 10,o 110 (.bin .quo) [t 109, i 8],m 18 110] false
@[simp]def e106_30:=rgF x106_30 rfl
def x106_31:EC:=.rg [m 111 16,m 112 17,o 113 (.bin .lss) [t 111, t 112]] false
@[simp]def e106_31:=rgF x106_31 rfl
def x106_32:EC:=.rg [m 114 16,m 115 18,o 116 (.bin .geq) [t 114, t 115],m 8 116] false
@[simp]def e106_32:=rgF x106_32 rfl
def x106_33:EC:=.rg [m 117 0,m 118 1,m 119 14,m 120 3,o 121 (.call 106) [t 117, t 118, t 119, t 120]] false
@[simp]def e106_33:=rgF x106_33 rfl
def x106_34:EC:=.rg [m 122 14,o 123 (.bin .add) [t 122, i 1],m 1 123] false
@[simp]def e106_34:=rgF x106_34 rfl
def x106_35:EC:=.rg [m 124 17,m 125 18,o 126 (.bin .geq) [t 124, t 125],m 8 126] false
@[simp]def e106_35:=rgF x106_35 rfl
def x106_36:EC:=.rg [m 127 0,m 128 14,o 129 (.bin .add) [t 128, i 1],m 130 2,m 131 3,o 132 (.call 106) [t 127, t 129, t 130, t 131]] false
@[simp]def e106_36:=rgF x106_36 rfl
def x106_37:EC:=.rg [m 133 14,m 2 133] false
@[simp]def e106_37:=rgF x106_37 rfl
def x106_38:EC:=.cd (t 113) (seqs [x106_32,x106_33,x106_34]) (seqs [x106_35,x106_36,x106_37])
@[simp]def e106_38:=cdF x106_38 rfl
def x106_39:EC:=.bk 1 (seqs [x106_2,(seqs [x106_3,x106_5]),(seqs [x106_6,x106_8]),(seqs [x106_9,x106_12]),x106_13,(seqs [x106_14,x106_18]),(seqs [x106_19,x106_22]),(seqs [x106_23,x106_26]),x106_27,x106_28,x106_29,x106_30,x106_31,x106_38])
@[simp]def e106_39:=bkF x106_39 rfl
def x106_40:EC:=.bk 0 (.lp x106_39)
@[simp]def e106_40:=bkF x106_40 rfl
def c_slices_pdqsortOrdered_int__106 : EC := (seqs [x106_0,x106_1,x106_40])
theorem k_106 : ecF Tryd.prog 106 = some (134, c_slices_pdqsortOrdered_int__106, []) := by kernel_rfl

/-- math/bits.Len -/
def x107_0:EC:=.rg [o 2 .mv [i 0]] false
@[simp]def e107_0:=rgF x107_0 rfl
def x107_1:EC:=.rg [m 3 0,o 4 (.cvI .u32) [t 3],o 5 (.call 132) [t 4],m 2 5] false
@[simp]def e107_1:=rgF x107_1 rfl
def x107_2:EC:=.cd (b false) (seqs [x107_1,.rt]) .skip
@[simp]def e107_2:=cdF x107_2 rfl
def x107_3:EC:=.rg [m 6 0,o 7 (.call 133) [t 6],m 2 7] false
@[simp]def e107_3:=rgF x107_3 rfl
def c_bits_Len_107 : EC := (seqs [x107_0,x107_2,x107_3,.rt])
theorem k_107 : ecF Tryd.prog 107 = some (8, c_bits_Len_107, [.tm 2]) := by kernel_rfl

/-- slices.IndexFunc[tallystone/syntax.Program,tallystone/syntax.Rule] -/
def x108_0:EC:=.rg [o 4 .mv [i 0]] false
@[simp]def e108_0:=rgF x108_0 rfl
def x108_1:EC:=.rg [m 6 0,o 7 .lenL [t 6],o 8 .mv [i 0]] false
@[simp]def e108_1:=rgF x108_1 rfl
def x108_2:EC:=.rg [o 9 (.bin .lss) [t 8, t 7]] false
@[simp]def e108_2:=rgF x108_2 rfl
def x108_3:EC:=.cd (t 9) .skip (.ex 0)
@[simp]def e108_3:=cdF x108_3 rfl
def x108_4:EC:=.rg [m 10 8,m 5 10] false
@[simp]def e108_4:=rgF x108_4 rfl
def x108_5:EC:=.rg [m 11 1,m 12 0,m 13 5,o 14 (.iaS 4) [t 12, t 13],o 15 (.load 4 true) [t 14],o 16 .callv [t 11, t 15]] false
@[simp]def e108_5:=rgF x108_5 rfl
def x108_6:EC:=.rg [m 17 5,m 4 17] false
@[simp]def e108_6:=rgF x108_6 rfl
def x108_7:EC:=.cd (t 16) (seqs [x108_6,.rt]) .skip
@[simp]def e108_7:=cdF x108_7 rfl
def x108_8:EC:=.bk 1 (seqs [x108_4,x108_5,x108_7])
@[simp]def e108_8:=bkF x108_8 rfl
def x108_9:EC:=.rg [o 18 (.bin .add) [t 8, i 1],m 8 18] false
@[simp]def e108_9:=rgF x108_9 rfl
def x108_10:EC:=.bk 0 (.lp (seqs [x108_2,x108_3,x108_8,x108_9]))
@[simp]def e108_10:=bkF x108_10 rfl
def x108_11:EC:=.rg [o 4 .mv [i (-1)]] false
@[simp]def e108_11:=rgF x108_11 rfl
def c_syntax_Rule__108 : EC := (seqs [x108_0,(seqs [x108_1,x108_10]),x108_11,.rt])
theorem k_108 : ecF Tryd.prog 108 = some (19, c_syntax_Rule__108, [.tm 4]) := by kernel_rfl

/-- slices.IndexFunc[[]tallystone/syntax.Stmt,tallystone/syntax.Stmt] -/
def x109_0:EC:=.rg [o 4 .mv [i 0]] false
@[simp]def e109_0:=rgF x109_0 rfl
def x109_1:EC:=.rg [m 6 0,o 7 .lenL [t 6],o 8 .mv [i 0]] false
@[simp]def e109_1:=rgF x109_1 rfl
def x109_2:EC:=.rg [o 9 (.bin .lss) [t 8, t 7]] false
@[simp]def e109_2:=rgF x109_2 rfl
def x109_3:EC:=.cd (t 9) .skip (.ex 0)
@[simp]def e109_3:=cdF x109_3 rfl
def x109_4:EC:=.rg [m 10 8,m 5 10] false
@[simp]def e109_4:=rgF x109_4 rfl
def x109_5:EC:=.rg [m 11 1,m 12 0,m 13 5,o 14 (.iaS 9) [t 12, t 13],o 15 (.load 9 true) [t 14],o 16 .callv [t 11, t 15]] false
@[simp]def e109_5:=rgF x109_5 rfl
def x109_6:EC:=.rg [m 17 5,m 4 17] false
@[simp]def e109_6:=rgF x109_6 rfl
def x109_7:EC:=.cd (t 16) (seqs [x109_6,.rt]) .skip
@[simp]def e109_7:=cdF x109_7 rfl
def x109_8:EC:=.bk 1 (seqs [x109_4,x109_5,x109_7])
@[simp]def e109_8:=bkF x109_8 rfl
def x109_9:EC:=.rg [o 18 (.bin .add) [t 8, i 1],m 8 18] false
@[simp]def e109_9:=rgF x109_9 rfl
def x109_10:EC:=.bk 0 (.lp (seqs [x109_2,x109_3,x109_8,x109_9]))
@[simp]def e109_10:=bkF x109_10 rfl
def x109_11:EC:=.rg [o 4 .mv [i (-1)]] false
@[simp]def e109_11:=rgF x109_11 rfl
def c_syntax_Stmt__109 : EC := (seqs [x109_0,(seqs [x109_1,x109_10]),x109_11,.rt])
theorem k_109 : ecF Tryd.prog 109 = some (19, c_syntax_Stmt__109, [.tm 4]) := by kernel_rfl

/-- slices.ContainsFunc[[]tallystone/syntax.Expr,tallystone/syntax.Expr] -/
def x110_0:EC:=.rg [o 4 .mv [b false]] false
@[simp]def e110_0:=rgF x110_0 rfl
def x110_1:EC:=.rg [m 5 0,m 6 1,o 7 (.call 134) [t 5, t 6],o 8 (.bin .geq) [t 7, i 0],m 4 8] false
@[simp]def e110_1:=rgF x110_1 rfl
def c_syntax_Expr__110 : EC := (seqs [x110_0,x110_1,.rt])
theorem k_110 : ecF Tryd.prog 110 = some (9, c_syntax_Expr__110, [.tm 4]) := by kernel_rfl

/-- tallystone/check.reads$1 -/
def x111_0:EC:=.rg [o 2 .box [t 0],o 3 .mv [b false]] false
@[simp]def e111_0:=rgF x111_0 rfl
def x111_1:EC:=.rg [o 4 (.load 6 true) [t 2],o 5 (.load 1 false) [t 1],o 6 (.call 84) [t 4, t 5],m 3 6] false
@[simp]def e111_1:=rgF x111_1 rfl
def c_check_readsS1_111 : EC := (seqs [x111_0,x111_1,.rt])
theorem k_111 : ecF Tryd.prog 111 = some (7, c_check_readsS1_111, [.tm 3]) := by kernel_rfl

/-- tallystone/token.Tokens -/
def x112_0:EC:=.rg [o 2 .mv [c (.snil)],o 3 .mv [i 0],o 4 .mv [i 0]] false
@[simp]def e112_0:=rgF x112_0 rfl
def x112_1:EC:=.rg [m 10 0,o 11 .lenS [t 10],o 12 (.bin .gtr) [t 11, i 8000]] false
@[simp]def e112_1:=rgF x112_1 rfl
def x112_2:EC:=.rg [o 2 .mv [c (.snil)],o 3 .mv [i 8000],o 4 .mv [i 6]] false
@[simp]def e112_2:=rgF x112_2 rfl
def x112_3:EC:=.cd (t 12) (seqs [x112_2,.rt]) .skip
@[simp]def e112_3:=cdF x112_3 rfl
def x112_4:EC:=.rg [m 13 3,m 14 0,m 15 3,o 16 (.slS true false) [t 14, t 15],o 17 (.call 135) [t 16],o 18 (.bin .add) [t 13, t 17],m 3 18] false
@[simp]def e112_4:=rgF x112_4 rfl
def x112_5:EC:=.rg [m 19 3,m 20 0,o 21 .lenS [t 20],o 22 (.bin .eql) [t 19, t 21]] false
@[simp]def e112_5:=rgF x112_5 rfl
def x112_6:EC:=.rg [m 23 2,m 2 23,o 3 .mv [i 0],o 4 .mv [i 0]] false
@[simp]def e112_6:=rgF x112_6 rfl
def x112_7:EC:=.cd (t 22) (seqs [x112_6,.rt]) .skip
@[simp]def e112_7:=cdF x112_7 rfl
def x112_8:EC:=.rg [m 25 0,m 26 3,o 27 (.slS true false) [t 25, t 26],o 28 (.call 136) [t 27],m 24 28,o 29 (.ext 0) [t 24],o 30 (.ext 1) [t 24],m 5 29,m 6 30] false
@[simp]def e112_8:=rgF x112_8 rfl
def x112_9:EC:=.rg [m 31 5,o 32 (.bin .eql) [t 31, i 0]] false
@[simp]def e112_9:=rgF x112_9 rfl
def x112_10:EC:=.rg [m 33 3,o 2 .mv [c (.snil)],m 3 33,o 4 .mv [i 3]] false
@[simp]def e112_10:=rgF x112_10 rfl
def x112_11:EC:=.cd (t 32) (seqs [x112_10,.rt]) .skip
@[simp]def e112_11:=cdF x112_11 rfl
def x112_12:EC:=.rg [m 34 5,m 35 0,m 36 3,m 37 3,m 38 6,o 39 (.bin .add) [t 37, t 38],o 40 (.slS true true) [t 35, t 36, t 39],m 41 3,o 42 (.build [.t (.int .i64 0), .t (.str []), .t (.int .i64 0)] [(0, 1), (1, 1), (2, 1)]) [t 34, t 40, t 41],o 7 (.alloc [.t (.int .i64 0), .t (.str []), .t (.int .i64 0)]) [],u (.store 3) [t 7, t 42]] false
@[simp]def e112_12:=rgF x112_12 rfl
def x112_13:EC:=.rg [o 44 (.load 3 true) [t 7],o 45 (.call 137) [t 44],m 43 45,o 46 (.ext 0) [t 43],o 47 (.ext 1) [t 43],m 8 46,m 9 47] false
@[simp]def e112_13:=rgF x112_13 rfl
def x112_14:EC:=.rg [m 48 5,o 49 (.bin .eql) [t 48, i 1],m 50 49,y 51 50 .mv [t 6],y 52 50 (.bin .gtr) [t 51, i 16],o 53 .pick [t 50, t 52, b false],m 54 53,n 55 54 .mv [t 5],n 56 54 (.bin .eql) [t 55, i 2],n 57 54 .mv [t 56],y 58 57 .mv [t 9],y 59 57 (.un .not) [t 58],n 60 54 .pick [t 57, t 59, b false],o 61 .pick [t 54, b true, t 60]] false
@[simp]def e112_14:=rgF x112_14 rfl
def x112_15:EC:=.rg [m 62 3,o 2 .mv [c (.snil)],m 3 62,o 4 .mv [i 6]] false
@[simp]def e112_15:=rgF x112_15 rfl
def x112_16:EC:=.cd (t 61) (seqs [x112_15,.rt]) .skip
@[simp]def e112_16:=cdF x112_16 rfl
def x112_17:EC:=.rg [m 63 2,o 64 (.load 3 true) [t 7],o 65 (.bsl 3) [t 64],o 66 (.app 168 3 32) [t 63, t 65],m 2 66] false
@[simp]def e112_17:=rgF x112_17 rfl
def x112_18:EC:=.rg [m 67 3,m 68 6,o 69 (.bin .add) [t 67, t 68],m 3 69] false
@[simp]def e112_18:=rgF x112_18 rfl
def x112_19:EC:=.bk 1 (seqs [x112_4,(seqs [x112_5,x112_7]),x112_8,(seqs [x112_9,x112_11]),x112_12,(seqs [x112_13,x112_14,x112_16]),x112_17,x112_18])
@[simp]def e112_19:=bkF x112_19 rfl
def x112_20:EC:=.bk 0 (.lp x112_19)
@[simp]def e112_20:=bkF x112_20 rfl
def c_token_Tokens_112 : EC := (seqs [x112_0,(seqs [x112_1,x112_3]),x112_20])
theorem k_112 : ecF Tryd.prog 112 = some (70, c_token_Tokens_112, [.tm 2, .tm 3, .tm 4]) := by kernel_rfl

/-- tallystone/token.Tokens, with slices that grow in boxes -/
def xb112_0:EC:=.rg [o 2 .mv [c (.snil)],o 3 .mv [i 0],o 4 .mv [i 0]] false
@[simp]def eb112_0:=rgF xb112_0 rfl
def xb112_1:EC:=.rg [m 10 0,o 11 .lenS [t 10],o 12 (.bin .gtr) [t 11, i 8000]] false
@[simp]def eb112_1:=rgF xb112_1 rfl
def xb112_2:EC:=.rg [o 2 .mv [c (.snil)],o 3 .mv [i 8000],o 4 .mv [i 6]] false
@[simp]def eb112_2:=rgF xb112_2 rfl
def xb112_3:EC:=.cd (t 12) (seqs [xb112_2,.rt]) .skip
@[simp]def eb112_3:=cdF xb112_3 rfl
def xb112_4:EC:=.rg [m 13 3,m 14 0,m 15 3,o 16 (.slS true false) [t 14, t 15],o 17 (.call 135) [t 16],o 18 (.bin .add) [t 13, t 17],m 3 18] false
@[simp]def eb112_4:=rgF xb112_4 rfl
def xb112_5:EC:=.rg [m 19 3,m 20 0,o 21 .lenS [t 20],o 22 (.bin .eql) [t 19, t 21]] false
@[simp]def eb112_5:=rgF xb112_5 rfl
def xb112_6:EC:=.rg [m 23 2,m 2 23,o 3 .mv [i 0],o 4 .mv [i 0]] false
@[simp]def eb112_6:=rgF xb112_6 rfl
def xb112_7:EC:=.cd (t 22) (seqs [xb112_6,.rt]) .skip
@[simp]def eb112_7:=cdF xb112_7 rfl
def xb112_8:EC:=.rg [m 25 0,m 26 3,o 27 (.slS true false) [t 25, t 26],o 28 (.call 136) [t 27],m 24 28,o 29 (.ext 0) [t 24],o 30 (.ext 1) [t 24],m 5 29,m 6 30] false
@[simp]def eb112_8:=rgF xb112_8 rfl
def xb112_9:EC:=.rg [m 31 5,o 32 (.bin .eql) [t 31, i 0]] false
@[simp]def eb112_9:=rgF xb112_9 rfl
def xb112_10:EC:=.rg [m 33 3,o 2 .mv [c (.snil)],m 3 33,o 4 .mv [i 3]] false
@[simp]def eb112_10:=rgF xb112_10 rfl
def xb112_11:EC:=.cd (t 32) (seqs [xb112_10,.rt]) .skip
@[simp]def eb112_11:=cdF xb112_11 rfl
def xb112_12:EC:=.rg [m 34 5,m 35 0,m 36 3,m 37 3,m 38 6,o 39 (.bin .add) [t 37, t 38],o 40 (.slS true true) [t 35, t 36, t 39],m 41 3,o 42 (.build [.t (.int .i64 0), .t (.str []), .t (.int .i64 0)] [(0, 1), (1, 1), (2, 1)]) [t 34, t 40, t 41],o 7 (.alloc [.t (.int .i64 0), .t (.str []), .t (.int .i64 0)]) [],u (.store 3) [t 7, t 42]] false
@[simp]def eb112_12:=rgF xb112_12 rfl
def xb112_13:EC:=.rg [o 44 (.load 3 true) [t 7],o 45 (.call 137) [t 44],m 43 45,o 46 (.ext 0) [t 43],o 47 (.ext 1) [t 43],m 8 46,m 9 47] false
@[simp]def eb112_13:=rgF xb112_13 rfl
def xb112_14:EC:=.rg [m 48 5,o 49 (.bin .eql) [t 48, i 1],m 50 49,y 51 50 .mv [t 6],y 52 50 (.bin .gtr) [t 51, i 16],o 53 .pick [t 50, t 52, b false],m 54 53,n 55 54 .mv [t 5],n 56 54 (.bin .eql) [t 55, i 2],n 57 54 .mv [t 56],y 58 57 .mv [t 9],y 59 57 (.un .not) [t 58],n 60 54 .pick [t 57, t 59, b false],o 61 .pick [t 54, b true, t 60]] false
@[simp]def eb112_14:=rgF xb112_14 rfl
def xb112_15:EC:=.rg [m 62 3,o 2 .mv [c (.snil)],m 3 62,o 4 .mv [i 6]] false
@[simp]def eb112_15:=rgF xb112_15 rfl
def xb112_16:EC:=.cd (t 61) (seqs [xb112_15,.rt]) .skip
@[simp]def eb112_16:=cdF xb112_16 rfl
def xb112_17:EC:=.rg [m 63 2,o 64 (.load 3 true) [t 7],o 65 (.bsl 3) [t 64],o 66 (.appB 168 3 32) [t 63, t 65],m 2 66] false
@[simp]def eb112_17:=rgF xb112_17 rfl
def xb112_18:EC:=.rg [m 67 3,m 68 6,o 69 (.bin .add) [t 67, t 68],m 3 69] false
@[simp]def eb112_18:=rgF xb112_18 rfl
def xb112_19:EC:=.bk 1 (seqs [xb112_4,(seqs [xb112_5,xb112_7]),xb112_8,(seqs [xb112_9,xb112_11]),xb112_12,(seqs [xb112_13,xb112_14,xb112_16]),xb112_17,xb112_18])
@[simp]def eb112_19:=bkF xb112_19 rfl
def xb112_20:EC:=.bk 0 (.lp xb112_19)
@[simp]def eb112_20:=bkF xb112_20 rfl
def b_token_Tokens_112 : EC := (seqs [xb112_0,(seqs [xb112_1,xb112_3]),xb112_20])
theorem kb_112 : ecB Tryd.prog 112 = some (70, b_token_Tokens_112, [.tm 2, .tm 3, .tm 4]) := by kernel_rfl

/-- tallystone/token.Keyword -/
def x113_0:EC:=.rg [o 2 .mv [b false]] false
@[simp]def e113_0:=rgF x113_0 rfl
def x113_1:EC:=.rg [m 3 0] false
@[simp]def e113_1:=rgF x113_1 rfl
def x113_2:EC:=.rg [o 5 (.bin .eql) [t 3, c (.t (.str [114, 117, 108, 101]))],m 4 5] false
@[simp]def e113_2:=rgF x113_2 rfl
def x113_3:EC:=.rg [o 6 (.bin .eql) [t 3, c (.t (.str [101, 97, 99, 104]))],m 4 6] false
@[simp]def e113_3:=rgF x113_3 rfl
def x113_4:EC:=.rg [o 7 (.bin .eql) [t 3, c (.t (.str [101, 110, 116, 105, 116, 121]))],m 4 7] false
@[simp]def e113_4:=rgF x113_4 rfl
def x113_5:EC:=.rg [o 8 (.bin .eql) [t 3, c (.t (.str [112, 97, 105, 114]))],m 4 8] false
@[simp]def e113_5:=rgF x113_5 rfl
def x113_6:EC:=.rg [o 9 (.bin .eql) [t 3, c (.t (.str [108, 101, 116]))],m 4 9] false
@[simp]def e113_6:=rgF x113_6 rfl
def x113_7:EC:=.rg [o 10 (.bin .eql) [t 3, c (.t (.str [114, 101, 113, 117, 105, 114, 101]))],m 4 10] false
@[simp]def e113_7:=rgF x113_7 rfl
def x113_8:EC:=.rg [o 11 (.bin .eql) [t 3, c (.t (.str [112, 111, 115, 116]))],m 4 11] false
@[simp]def e113_8:=rgF x113_8 rfl
def x113_9:EC:=.rg [o 12 (.bin .eql) [t 3, c (.t (.str [116, 111]))],m 4 12] false
@[simp]def e113_9:=rgF x113_9 rfl
def x113_10:EC:=.rg [o 13 (.bin .eql) [t 3, c (.t (.str [112, 101, 114]))],m 4 13] false
@[simp]def e113_10:=rgF x113_10 rfl
def x113_11:EC:=.rg [o 14 (.bin .eql) [t 3, c (.t (.str [97, 110, 100]))],m 4 14] false
@[simp]def e113_11:=rgF x113_11 rfl
def x113_12:EC:=.rg [o 15 (.bin .eql) [t 3, c (.t (.str [111, 114]))],m 4 15] false
@[simp]def e113_12:=rgF x113_12 rfl
def x113_13:EC:=.rg [o 16 (.bin .eql) [t 3, c (.t (.str [110, 111, 116]))],m 4 16] false
@[simp]def e113_13:=rgF x113_13 rfl
def x113_14:EC:=.rg [o 17 (.bin .eql) [t 3, c (.t (.str [109, 105, 110]))],m 4 17] false
@[simp]def e113_14:=rgF x113_14 rfl
def x113_15:EC:=.rg [o 18 (.bin .eql) [t 3, c (.t (.str [109, 97, 120]))],m 4 18] false
@[simp]def e113_15:=rgF x113_15 rfl
def x113_16:EC:=.rg [o 19 (.bin .eql) [t 3, c (.t (.str [97, 98, 115]))],m 4 19] false
@[simp]def e113_16:=rgF x113_16 rfl
def x113_17:EC:=.rg [o 20 (.bin .eql) [t 3, c (.t (.str [98, 97, 108, 97, 110, 99, 101]))],m 4 20] false
@[simp]def e113_17:=rgF x113_17 rfl
def x113_18:EC:=.rg [o 21 (.bin .eql) [t 3, c (.t (.str [112, 97, 114, 116, 110, 101, 114]))],m 4 21] false
@[simp]def e113_18:=rgF x113_18 rfl
def x113_19:EC:=.rg [o 22 (.bin .eql) [t 3, c (.t (.str [115, 104, 97, 114, 101]))],m 4 22] false
@[simp]def e113_19:=rgF x113_19 rfl
def x113_20:EC:=.cd (t 4) .skip x113_19
@[simp]def e113_20:=cdF x113_20 rfl
def x113_21:EC:=.cd (t 4) .skip (seqs [x113_18,x113_20])
@[simp]def e113_21:=cdF x113_21 rfl
def x113_22:EC:=.cd (t 4) .skip (seqs [x113_17,x113_21])
@[simp]def e113_22:=cdF x113_22 rfl
def x113_23:EC:=.cd (t 4) .skip (seqs [x113_16,x113_22])
@[simp]def e113_23:=cdF x113_23 rfl
def x113_24:EC:=.cd (t 4) .skip (seqs [x113_15,x113_23])
@[simp]def e113_24:=cdF x113_24 rfl
def x113_25:EC:=.cd (t 4) .skip (seqs [x113_14,x113_24])
@[simp]def e113_25:=cdF x113_25 rfl
def x113_26:EC:=.cd (t 4) .skip (seqs [x113_13,x113_25])
@[simp]def e113_26:=cdF x113_26 rfl
def x113_27:EC:=.cd (t 4) .skip (seqs [x113_12,x113_26])
@[simp]def e113_27:=cdF x113_27 rfl
def x113_28:EC:=.cd (t 4) .skip (seqs [x113_11,x113_27])
@[simp]def e113_28:=cdF x113_28 rfl
def x113_29:EC:=.cd (t 4) .skip (seqs [x113_10,x113_28])
@[simp]def e113_29:=cdF x113_29 rfl
def x113_30:EC:=.cd (t 4) .skip (seqs [x113_9,x113_29])
@[simp]def e113_30:=cdF x113_30 rfl
def x113_31:EC:=.cd (t 4) .skip (seqs [x113_8,x113_30])
@[simp]def e113_31:=cdF x113_31 rfl
def x113_32:EC:=.cd (t 4) .skip (seqs [x113_7,x113_31])
@[simp]def e113_32:=cdF x113_32 rfl
def x113_33:EC:=.cd (t 4) .skip (seqs [x113_6,x113_32])
@[simp]def e113_33:=cdF x113_33 rfl
def x113_34:EC:=.cd (t 4) .skip (seqs [x113_5,x113_33])
@[simp]def e113_34:=cdF x113_34 rfl
def x113_35:EC:=.cd (t 4) .skip (seqs [x113_4,x113_34])
@[simp]def e113_35:=cdF x113_35 rfl
def x113_36:EC:=.cd (t 4) .skip (seqs [x113_3,x113_35])
@[simp]def e113_36:=cdF x113_36 rfl
def x113_37:EC:=.rg [o 2 .mv [b true]] false
@[simp]def e113_37:=rgF x113_37 rfl
def x113_38:EC:=.cd (t 4) (seqs [x113_37,.rt]) .skip
@[simp]def e113_38:=cdF x113_38 rfl
def x113_39:EC:=.bk 0 (seqs [(seqs [x113_2,x113_36]),x113_38])
@[simp]def e113_39:=bkF x113_39 rfl
def x113_40:EC:=.rg [o 2 .mv [b false]] false
@[simp]def e113_40:=rgF x113_40 rfl
def c_token_Keyword_113 : EC := (seqs [x113_0,(seqs [x113_1,x113_39]),x113_40,.rt])
theorem k_113 : ecF Tryd.prog 113 = some (23, c_token_Keyword_113, [.tm 2]) := by kernel_rfl

/-- tallystone/syntax.Depth -/
def x114_0:EC:=.rg [o 1 .box [t 0],o 2 .mv [i 0]] false
@[simp]def e114_0:=rgF x114_0 rfl
def x114_1:EC:=.rg [o 3 .mv [i 0]] false
@[simp]def e114_1:=rgF x114_1 rfl
def x114_2:EC:=.rg [o 6 (.faddr 5) [t 1],o 7 (.load 1 false) [t 6],o 8 .lenL [t 7],o 9 .mv [i 0]] false
@[simp]def e114_2:=rgF x114_2 rfl
def x114_3:EC:=.rg [o 10 (.bin .lss) [t 9, t 8]] false
@[simp]def e114_3:=rgF x114_3 rfl
def x114_4:EC:=.cd (t 10) .skip (.ex 0)
@[simp]def e114_4:=cdF x114_4 rfl
def x114_5:EC:=.rg [o 11 (.iaS 6) [t 7, t 9],o 12 (.load 6 true) [t 11],o 5 (.alloc [.t (.int .i64 0), .t (.int .i64 0), .t (.int .i64 0), .t (.int .i64 0), .t (.str []), .snil]) [],u (.store 6) [t 5, t 12]] false
@[simp]def e114_5:=rgF x114_5 rfl
def x114_6:EC:=.rg [m 13 3,o 14 (.load 6 true) [t 5],o 15 (.call 114) [t 14],o 16 (.mm true) [t 13, t 15],m 3 16] false
@[simp]def e114_6:=rgF x114_6 rfl
def x114_7:EC:=.bk 1 (seqs [x114_5,x114_6])
@[simp]def e114_7:=bkF x114_7 rfl
def x114_8:EC:=.rg [o 17 (.bin .add) [t 9, i 1],m 9 17] false
@[simp]def e114_8:=rgF x114_8 rfl
def x114_9:EC:=.bk 0 (.lp (seqs [x114_3,x114_4,x114_7,x114_8]))
@[simp]def e114_9:=bkF x114_9 rfl
def x114_10:EC:=.rg [m 18 3,o 19 (.bin .add) [t 18, i 1],m 2 19] false
@[simp]def e114_10:=rgF x114_10 rfl
def c_syntax_Depth_114 : EC := (seqs [x114_0,x114_1,(seqs [x114_2,x114_9]),x114_10,.rt])
theorem k_114 : ecF Tryd.prog 114 = some (20, c_syntax_Depth_114, [.tm 2]) := by kernel_rfl

/-- tallystone/syntax.proper -/
def x115_0:EC:=.rg [o 1 .box [t 0],o 2 .mv [b false]] false
@[simp]def e115_0:=rgF x115_0 rfl
def x115_1:EC:=.rg [o 5 (.faddr 0) [t 1],o 6 (.load 1 false) [t 5],o 7 (.build [.t (.int .i64 0), .t (.int .i64 0), .t (.int .i64 0), .t (.int .i64 0), .t (.str []), .snil] [(0, 1)]) [t 6],o 3 (.alloc [.t (.int .i64 0), .t (.int .i64 0), .t (.int .i64 0), .t (.int .i64 0), .t (.str []), .snil]) [],u (.store 6) [t 3, t 7]] false
@[simp]def e115_1:=rgF x115_1 rfl
def x115_2:EC:=.rg [o 8 (.faddr 0) [t 1],o 9 (.load 1 false) [t 8],o 10 (.bin .geq) [t 9, i 1],m 11 10,y 12 11 (.faddr 0) [t 1],y 13 11 (.load 1 false) [t 12],y 14 11 (.bin .leq) [t 13, i 22],o 15 .pick [t 11, t 14, b false],m 16 15,y 17 16 (.faddr 5) [t 1],y 18 16 (.load 1 false) [t 17],y 19 16 .lenL [t 18],y 20 16 (.faddr 0) [t 1],y 21 16 (.load 1 false) [t 20],y 22 16 (.call 138) [t 21],y 23 16 (.bin .eql) [t 19, t 22],o 24 .pick [t 16, t 23, b false],m 4 24] true
@[simp]def e115_2:=rgF x115_2 rfl
def x115_3:EC:=.rg [o 25 (.faddr 0) [t 1],o 26 (.load 1 false) [t 25]] false
@[simp]def e115_3:=rgF x115_3 rfl
def x115_4:EC:=.rg [o 28 (.bin .eql) [t 26, i 1],m 27 28] false
@[simp]def e115_4:=rgF x115_4 rfl
def x115_5:EC:=.rg [o 29 (.faddr 1) [t 1],o 30 (.load 1 false) [t 29],o 31 (.faddr 1) [t 3],u (.store 1) [t 31, t 30]] false
@[simp]def e115_5:=rgF x115_5 rfl
def x115_6:EC:=.rg [m 32 4,m 33 32,y 34 33 (.faddr 1) [t 1],y 35 33 (.load 1 false) [t 34],y 36 33 (.bin .geq) [t 35, i 0],o 37 .pick [t 33, t 36, b false],m 38 37,y 39 38 (.faddr 1) [t 1],y 40 38 (.load 1 false) [t 39],y 41 38 (.bin .leq) [t 40, i 1000000000000],o 42 .pick [t 38, t 41, b false],m 4 42] false
@[simp]def e115_6:=rgF x115_6 rfl
def x115_7:EC:=.rg [o 44 (.bin .eql) [t 26, i 2],m 43 44] false
@[simp]def e115_7:=rgF x115_7 rfl
def x115_8:EC:=.rg [o 45 (.faddr 4) [t 1],o 46 (.load 1 false) [t 45],o 47 (.faddr 4) [t 3],u (.store 1) [t 47, t 46]] false
@[simp]def e115_8:=rgF x115_8 rfl
def x115_9:EC:=.rg [m 48 4,m 49 48,y 50 49 (.faddr 4) [t 1],y 51 49 (.load 1 false) [t 50],y 52 49 (.call 86) [t 51],o 53 .pick [t 49, t 52, b false],m 4 53] false
@[simp]def e115_9:=rgF x115_9 rfl
def x115_10:EC:=.rg [o 55 (.bin .eql) [t 26, i 20],m 54 55] false
@[simp]def e115_10:=rgF x115_10 rfl
def x115_11:EC:=.rg [o 56 (.faddr 1) [t 1],o 57 (.load 1 false) [t 56],o 58 (.faddr 1) [t 3],u (.store 1) [t 58, t 57]] false
@[simp]def e115_11:=rgF x115_11 rfl
def x115_12:EC:=.rg [m 59 4,m 60 59,y 61 60 (.faddr 1) [t 1],y 62 60 (.load 1 false) [t 61],y 63 60 (.bin .geq) [t 62, i 1],o 64 .pick [t 60, t 63, b false],m 65 64,y 66 65 (.faddr 1) [t 1],y 67 65 (.load 1 false) [t 66],y 68 65 (.bin .leq) [t 67, i 1000000000000],o 69 .pick [t 65, t 68, b false],m 4 69] false
@[simp]def e115_12:=rgF x115_12 rfl
def x115_13:EC:=.rg [o 71 (.bin .eql) [t 26, i 21],m 70 71] false
@[simp]def e115_13:=rgF x115_13 rfl
def x115_14:EC:=.rg [o 72 (.bin .eql) [t 26, i 22],m 70 72] false
@[simp]def e115_14:=rgF x115_14 rfl
def x115_15:EC:=.cd (t 70) .skip x115_14
@[simp]def e115_15:=cdF x115_15 rfl
def x115_16:EC:=.rg [o 73 (.faddr 2) [t 1]] true
@[simp]def e115_16:=rgF x115_16 rfl
def x115_17:EC:=.rg [o 74 (.load 1 false) [t 73]] true
@[simp]def e115_17:=rgF x115_17 rfl
def x115_18:EC:=.rg [o 75 (.faddr 3) [t 1]] true
@[simp]def e115_18:=rgF x115_18 rfl
def x115_19:EC:=.rg [o 77 (.faddr 2) [t 3]] true
@[simp]def e115_19:=rgF x115_19 rfl
def x115_20:EC:=.rg [o 76 (.load 1 false) [t 75]] true
@[simp]def e115_20:=rgF x115_20 rfl
def x115_21:EC:=.rg [u (.store 1) [t 77, t 74]] true
@[simp]def e115_21:=rgF x115_21 rfl
def x115_22:EC:=.rg [o 78 (.faddr 3) [t 3]] true
@[simp]def e115_22:=rgF x115_22 rfl
def x115_23:EC:=.rg [u (.store 1) [t 78, t 76]] true
@[simp]def e115_23:=rgF x115_23 rfl
def x115_24:EC:=.rg [u (.store 1) [t 77, t 74]] true
@[simp]def e115_24:=rgF x115_24 rfl
def x115_25:EC:=.rg [o 76 (.load 1 false) [t 75]] true
@[simp]def e115_25:=rgF x115_25 rfl
def x115_26:EC:=.rg [o 78 (.faddr 3) [t 3]] true
@[simp]def e115_26:=rgF x115_26 rfl
def x115_27:EC:=.rg [u (.store 1) [t 78, t 76]] true
@[simp]def e115_27:=rgF x115_27 rfl
def x115_28:EC:=.al (seqs [x115_20,x115_21,x115_22,x115_23,.skip]) (seqs [x115_24,x115_25,x115_26,x115_27,.skip])
@[simp]def e115_28:=alF x115_28 rfl
def x115_29:EC:=.rg [m 79 4,m 80 79,y 81 80 (.faddr 2) [t 1],y 82 80 (.load 1 false) [t 81],y 83 80 (.call 87) [t 82],o 84 .pick [t 80, t 83, b false],m 85 84,y 86 85 (.faddr 3) [t 1],y 87 85 (.load 1 false) [t 86],y 88 85 (.call 87) [t 87],o 89 .pick [t 85, t 88, b false],m 4 89] false
@[simp]def e115_29:=rgF x115_29 rfl
def x115_30:EC:=.cd (t 70) (seqs [(seqs [x115_16,x115_17,x115_18,x115_19,x115_28]),x115_29]) .skip
@[simp]def e115_30:=cdF x115_30 rfl
def x115_31:EC:=.cd (t 54) (seqs [x115_11,x115_12]) (seqs [(seqs [x115_13,x115_15]),x115_30])
@[simp]def e115_31:=cdF x115_31 rfl
def x115_32:EC:=.cd (t 43) (seqs [x115_8,x115_9]) (seqs [x115_10,x115_31])
@[simp]def e115_32:=cdF x115_32 rfl
def x115_33:EC:=.cd (t 27) (seqs [x115_5,x115_6]) (seqs [x115_7,x115_32])
@[simp]def e115_33:=cdF x115_33 rfl
def x115_34:EC:=.bk 0 (seqs [x115_4,x115_33])
@[simp]def e115_34:=bkF x115_34 rfl
def x115_35:EC:=.rg [m 90 4,m 91 90,y 92 91 (.faddr 1) [t 1],y 93 91 (.load 1 false) [t 92],y 94 91 (.faddr 1) [t 3],y 95 91 (.load 1 false) [t 94],y 96 91 (.bin .eql) [t 93, t 95],o 97 .pick [t 91, t 96, b false],m 98 97,y 99 98 (.faddr 2) [t 1],y 100 98 (.load 1 false) [t 99],y 101 98 (.faddr 2) [t 3],y 102 98 (.load 1 false) [t 101],y 103 98 (.bin .eql) [t 100, t 102],o 104 .pick [t 98, t 103, b false],m 105 104,y 106 105 (.faddr 3) [t 1],y 107 105 (.load 1 false) [t 106],y 108 105 (.faddr 3) [t 3],y 109 105 (.load 1 false) [t 108],y 110 105 (.bin .eql) [t 107, t 109],o 111 .pick [t 105, t 110, b false],m 112 111,y 113 112 (.faddr 4) [t 1],y 114 112 (.load 1 false) [t 113],y 115 112 (.faddr 4) [t 3],y 116 112 (.load 1 false) [t 115],y 117 112 (.bin .eql) [t 114, t 116],o 118 .pick [t 112, t 117, b false],m 119 118,y 120 119 (.faddr 5) [t 1],y 121 119 (.load 1 false) [t 120],y 122 119 (.call 110) [t 121, c (.fn (.func 139) [])],y 123 119 (.un .not) [t 122],o 124 .pick [t 119, t 123, b false],m 2 124] false
@[simp]def e115_35:=rgF x115_35 rfl
def c_syntax_proper_115 : EC := (seqs [x115_0,x115_1,x115_2,(seqs [x115_3,x115_34]),x115_35,.rt])
theorem k_115 : ecF Tryd.prog 115 = some (125, c_syntax_proper_115, [.tm 2]) := by kernel_rfl

/-- tallystone/chart.Find -/
def x120_0:EC:=.rg [o 4 (.alloc [.t (.int .i64 0), .t (.int .i64 0), .t (.int .i64 0), .t (.int .i64 0)]) [],o 5 .mv [b false]] false
@[simp]def e120_0:=rgF x120_0 rfl
def x120_1:EC:=.rg [m 8 0,o 9 .lenL [t 8],o 10 .mv [i 0]] false
@[simp]def e120_1:=rgF x120_1 rfl
def x120_2:EC:=.rg [o 11 (.bin .lss) [t 10, t 9]] false
@[simp]def e120_2:=rgF x120_2 rfl
def x120_3:EC:=.cd (t 11) .skip (.ex 0)
@[simp]def e120_3:=cdF x120_3 rfl
def x120_4:EC:=.rg [o 12 (.iaS 4) [t 8, t 10],o 13 (.load 4 true) [t 12],o 7 (.alloc [.t (.int .i64 0), .t (.int .i64 0), .t (.int .i64 0), .t (.int .i64 0)]) [],u (.store 4) [t 7, t 13]] false
@[simp]def e120_4:=rgF x120_4 rfl
def x120_5:EC:=.rg [o 14 (.faddr 0) [t 7],o 15 (.load 1 false) [t 14],m 16 1,o 17 (.bin .eql) [t 15, t 16]] false
@[simp]def e120_5:=rgF x120_5 rfl
def x120_6:EC:=.rg [o 18 (.load 4 true) [t 7],u (.store 4) [t 4, t 18],o 5 .mv [b true]] false
@[simp]def e120_6:=rgF x120_6 rfl
def x120_7:EC:=.cd (t 17) (seqs [x120_6,.rt]) .skip
@[simp]def e120_7:=cdF x120_7 rfl
def x120_8:EC:=.bk 1 (seqs [x120_4,x120_5,x120_7])
@[simp]def e120_8:=bkF x120_8 rfl
def x120_9:EC:=.rg [o 19 (.bin .add) [t 10, i 1],m 10 19] false
@[simp]def e120_9:=rgF x120_9 rfl
def x120_10:EC:=.bk 0 (.lp (seqs [x120_2,x120_3,x120_8,x120_9]))
@[simp]def e120_10:=bkF x120_10 rfl
def x120_11:EC:=.rg [o 20 (.build [.t (.int .i64 0), .t (.int .i64 0), .t (.int .i64 0), .t (.int .i64 0)] []) [],u (.store 4) [t 4, t 20],o 5 .mv [b false]] false
@[simp]def e120_11:=rgF x120_11 rfl
def c_chart_Find_120 : EC := (seqs [x120_0,(seqs [x120_1,x120_10]),x120_11,.rt])
theorem k_120 : ecF Tryd.prog 120 = some (21, c_chart_Find_120, [.ce 4 4 true, .tm 5]) := by kernel_rfl

/-- tallystone/chart.climb -/
def x121_0:EC:=.rg [o 4 .mv [c (.snil)]] false
@[simp]def e121_0:=rgF x121_0 rfl
def x121_1:EC:=.rg [o 5 .mv [c (.snil)]] false
@[simp]def e121_1:=rgF x121_1 rfl
def x121_2:EC:=.rg [o 9 .mkmap [],m 6 9] false
@[simp]def e121_2:=rgF x121_2 rfl
def x121_3:EC:=.rg [m 11 0,m 12 1,o 13 (.call 120) [t 11, t 12],m 10 13,o 14 (.ext 0) [t 10],o 15 (.ext 1) [t 10],o 7 (.alloc [.t (.int .i64 0), .t (.int .i64 0), .t (.int .i64 0), .t (.int .i64 0)]) [],u (.store 4) [t 7, t 14],m 8 15] false
@[simp]def e121_3:=rgF x121_3 rfl
def x121_4:EC:=.rg [m 16 8,o 17 (.un .not) [t 16],m 18 17,n 19 18 .mv [t 6],n 20 18 .mv [t 1],n 21 18 (.lkp false [1] false false [.t (.bool false)]) [t 19, t 20],o 22 .pick [t 18, b true, t 21]] false
@[simp]def e121_4:=rgF x121_4 rfl
def x121_5:EC:=.cd (t 22) (.ex 0) .skip
@[simp]def e121_5:=cdF x121_5 rfl
def x121_6:EC:=.rg [m 23 6,m 24 1,u (.mup false [1]) [t 23, t 24, b true]] false
@[simp]def e121_6:=rgF x121_6 rfl
def x121_7:EC:=.rg [m 25 5,m 26 1,o 27 (.bsl 1) [t 26],o 28 (.app 3 1 8) [t 25, t 27],m 5 28] false
@[simp]def e121_7:=rgF x121_7 rfl
def x121_8:EC:=.rg [o 29 (.faddr 3) [t 7],o 30 (.load 1 false) [t 29],m 1 30] false
@[simp]def e121_8:=rgF x121_8 rfl
def x121_9:EC:=.bk 1 (seqs [x121_3,(seqs [x121_4,x121_5]),x121_6,x121_7,x121_8])
@[simp]def e121_9:=bkF x121_9 rfl
def x121_10:EC:=.bk 0 (.lp x121_9)
@[simp]def e121_10:=bkF x121_10 rfl
def x121_11:EC:=.rg [m 31 5,m 4 31] false
@[simp]def e121_11:=rgF x121_11 rfl
def c_chart_climb_121 : EC := (seqs [x121_0,x121_1,x121_2,.skip,x121_10,x121_11,.rt])
theorem k_121 : ecF Tryd.prog 121 = some (32, c_chart_climb_121, [.tm 4]) := by kernel_rfl

/-- tallystone/chart.climb, with slices that grow in boxes -/
def xb121_0:EC:=.rg [o 4 .mv [c (.snil)]] false
@[simp]def eb121_0:=rgF xb121_0 rfl
def xb121_1:EC:=.rg [o 5 .mv [c (.snil)]] false
@[simp]def eb121_1:=rgF xb121_1 rfl
def xb121_2:EC:=.rg [o 9 .mkmap [],m 6 9] false
@[simp]def eb121_2:=rgF xb121_2 rfl
def xb121_3:EC:=.rg [m 11 0,m 12 1,o 13 (.call 120) [t 11, t 12],m 10 13,o 14 (.ext 0) [t 10],o 15 (.ext 1) [t 10],o 7 (.alloc [.t (.int .i64 0), .t (.int .i64 0), .t (.int .i64 0), .t (.int .i64 0)]) [],u (.store 4) [t 7, t 14],m 8 15] false
@[simp]def eb121_3:=rgF xb121_3 rfl
def xb121_4:EC:=.rg [m 16 8,o 17 (.un .not) [t 16],m 18 17,n 19 18 .mv [t 6],n 20 18 .mv [t 1],n 21 18 (.lkp false [1] false false [.t (.bool false)]) [t 19, t 20],o 22 .pick [t 18, b true, t 21]] false
@[simp]def eb121_4:=rgF xb121_4 rfl
def xb121_5:EC:=.cd (t 22) (.ex 0) .skip
@[simp]def eb121_5:=cdF xb121_5 rfl
def xb121_6:EC:=.rg [m 23 6,m 24 1,u (.mup false [1]) [t 23, t 24, b true]] false
@[simp]def eb121_6:=rgF xb121_6 rfl
def xb121_7:EC:=.rg [m 25 5,m 26 1,o 27 (.bsl 1) [t 26],o 28 (.appB 3 1 8) [t 25, t 27],m 5 28] false
@[simp]def eb121_7:=rgF xb121_7 rfl
def xb121_8:EC:=.rg [o 29 (.faddr 3) [t 7],o 30 (.load 1 false) [t 29],m 1 30] false
@[simp]def eb121_8:=rgF xb121_8 rfl
def xb121_9:EC:=.bk 1 (seqs [xb121_3,(seqs [xb121_4,xb121_5]),xb121_6,xb121_7,xb121_8])
@[simp]def eb121_9:=bkF xb121_9 rfl
def xb121_10:EC:=.bk 0 (.lp xb121_9)
@[simp]def eb121_10:=bkF xb121_10 rfl
def xb121_11:EC:=.rg [m 31 5,m 4 31] false
@[simp]def eb121_11:=rgF xb121_11 rfl
def b_chart_climb_121 : EC := (seqs [xb121_0,xb121_1,xb121_2,.skip,xb121_10,xb121_11,.rt])
theorem kb_121 : ecB Tryd.prog 121 = some (32, b_chart_climb_121, [.tm 4]) := by kernel_rfl

/-- tallystone/tallystoneref08.Find -/
def x122_0:EC:=.rg [o 4 (.alloc [.t (.int .i64 0), .t (.int .i64 0), .t (.int .i64 0), .t (.int .i64 0)]) [],o 5 .mv [b false]] false
@[simp]def e122_0:=rgF x122_0 rfl
def x122_1:EC:=.rg [o 6 .mv [i 0]] false
@[simp]def e122_1:=rgF x122_1 rfl
def x122_2:EC:=.rg [m 7 6,m 8 0,o 9 .lenL [t 8],o 10 (.bin .lss) [t 7, t 9]] false
@[simp]def e122_2:=rgF x122_2 rfl
def x122_3:EC:=.cd (t 10) .skip (.ex 0)
@[simp]def e122_3:=cdF x122_3 rfl
def x122_4:EC:=.rg [m 13 0,m 14 6,o 15 (.iaS 4) [t 13, t 14],o 16 (.faddr 0) [t 15],o 17 (.load 1 false) [t 16],m 18 1,o 19 (.bin .eql) [t 17, t 18]] false
@[simp]def e122_4:=rgF x122_4 rfl
def x122_5:EC:=.rg [m 20 0,m 21 6,o 22 (.iaS 4) [t 20, t 21],o 23 (.load 4 true) [t 22],u (.store 4) [t 4, t 23],o 5 .mv [b true]] false
@[simp]def e122_5:=rgF x122_5 rfl
def x122_6:EC:=.cd (t 19) (seqs [x122_5,.rt]) .skip
@[simp]def e122_6:=cdF x122_6 rfl
def x122_7:EC:=.bk 1 (seqs [x122_4,x122_6])
@[simp]def e122_7:=bkF x122_7 rfl
def x122_8:EC:=.rg [m 11 6,o 12 (.bin .add) [t 11, i 1],m 6 12] false
@[simp]def e122_8:=rgF x122_8 rfl
def x122_9:EC:=.bk 0 (.lp (seqs [(seqs [x122_2,x122_3]),x122_7,x122_8]))
@[simp]def e122_9:=bkF x122_9 rfl
def x122_10:EC:=.rg [o 24 (.build [.t (.int .i64 0), .t (.int .i64 0), .t (.int .i64 0), .t (.int .i64 0)] []) [],u (.store 4) [t 4, t 24],o 5 .mv [b false]] false
@[simp]def e122_10:=rgF x122_10 rfl
def c_tallystoneref08_Find_122 : EC := (seqs [x122_0,(seqs [x122_1,x122_9]),x122_10,.rt])
theorem k_122 : ecF Tryd.prog 122 = some (25, c_tallystoneref08_Find_122, [.ce 4 4 true, .tm 5]) := by kernel_rfl

/-- slices.insertionSortOrdered[int] -/
def x123_0:EC:=.rg [m 8 1,o 9 (.bin .add) [t 8, i 1],m 6 9] false
@[simp]def e123_0:=rgF x123_0 rfl
def x123_1:EC:=.rg [m 10 6,m 11 2,o 12 (.bin .lss) [t 10, t 11]] false
@[simp]def e123_1:=rgF x123_1 rfl
def x123_2:EC:=.cd (t 12) .skip (.ex 0)
@[simp]def e123_2:=cdF x123_2 rfl
def x123_3:EC:=.rg [m 15 6,m 7 15] false
@[simp]def e123_3:=rgF x123_3 rfl
def x123_4:EC:=.rg [m 16 7,m 17 1,o 18 (.bin .gtr) [t 16, t 17],m 19 18,y 20 19 .mv [t 0],y 21 19 .mv [t 7],y 22 19 (.iaS 1) [t 20, t 21],y 23 19 (.load 1 false) [t 22],y 24 19 .mv [t 0],y 25 19 .mv [t 7],y 26 19 (.bin .sub) [t 25, i 1],y 27 19 (.iaS 1) [t 24, t 26],y 28 19 (.load 1 false) [t 27],y 29 19 (.call 129) [t 23, t 28],o 30 .pick [t 19, t 29, b false]] true
@[simp]def e123_4:=rgF x123_4 rfl
def x123_5:EC:=.cd (t 30) .skip (.ex 2)
@[simp]def e123_5:=cdF x123_5 rfl
def x123_6:EC:=.rg [m 33 0,m 34 7,m 35 0,m 36 7,o 37 (.bin .sub) [t 36, i 1],m 38 0,m 39 7,o 40 (.bin .sub) [t 39, i 1],o 41 (.iaS 1) [t 38, t 40],o 42 (.load 1 false) [t 41],m 43 0,m 44 7,o 45 (.iaS 1) [t 43, t 44],o 46 (.load 1 false) [t 45],o 47 (.iaS 1) [t 33, t 34],u (.store 1) [t 47, t 42],o 48 (.iaS 1) [t 35, t 37],u (.store 1) [t 48, t 46]] true
@[simp]def e123_6:=rgF x123_6 rfl
def x123_7:EC:=.bk 3 x123_6
@[simp]def e123_7:=bkF x123_7 rfl
def x123_8:EC:=.rg [m 31 7,o 32 (.bin .sub) [t 31, i 1],m 7 32] false
@[simp]def e123_8:=rgF x123_8 rfl
def x123_9:EC:=.bk 2 (.lp (seqs [(seqs [x123_4,x123_5]),x123_7,x123_8]))
@[simp]def e123_9:=bkF x123_9 rfl
def x123_10:EC:=.bk 1 (seqs [x123_3,x123_9])
@[simp]def e123_10:=bkF x123_10 rfl
def x123_11:EC:=.rg [m 13 6,o 14 (.bin .add) [t 13, i 1],m 6 14] false
@[simp]def e123_11:=rgF x123_11 rfl
def x123_12:EC:=.bk 0 (.lp (seqs [(seqs [x123_1,x123_2]),x123_10,x123_11]))
@[simp]def e123_12:=bkF x123_12 rfl
def c_slices_insertionSortOrdered_int__123 : EC := (seqs [x123_0,x123_12])
theorem k_123 : ecF Tryd.prog 123 = some (49, c_slices_insertionSortOrdered_int__123, []) := by kernel_rfl

/-- slices.heapSortOrdered[int] -/
def x124_0:EC:=.rg [m 11 1,m 6 11] false
@[simp]def e124_0:=rgF x124_0 rfl
def x124_1:EC:=.rg [o 7 .mv [i 0]] false
@[simp]def e124_1:=rgF x124_1 rfl
def x124_2:EC:=.rg [m 12 2,m 13 1,o 14 (.bin .sub) [t 12, t 13],m 8 14] false
@[simp]def e124_2:=rgF x124_2 rfl
def x124_3:EC:=.rg [m 15 8,o 16 (.bin .sub) [t 15, i 1],o 17 (.bin .quo) [t 16, i 2],m 9 17] false
@[simp]def e124_3:=rgF x124_3 rfl
def x124_4:EC:=.rg [m 18 9,o 19 (.bin .geq) [t 18, i 0]] false
@[simp]def e124_4:=rgF x124_4 rfl
def x124_5:EC:=.cd (t 19) .skip (.ex 0)
@[simp]def e124_5:=cdF x124_5 rfl
def x124_6:EC:=.rg [m 22 0,m 23 9,m 24 8,m 25 6,o 26 (.call 144) [t 22, t 23, t 24, t 25]] false
@[simp]def e124_6:=rgF x124_6 rfl
def x124_7:EC:=.bk 1 x124_6
@[simp]def e124_7:=bkF x124_7 rfl
def x124_8:EC:=.rg [m 20 9,o 21 (.bin .sub) [t 20, i 1],m 9 21] false
@[simp]def e124_8:=rgF x124_8 rfl
def x124_9:EC:=.bk 0 (.lp (seqs [(seqs [x124_4,x124_5]),x124_7,x124_8]))
@[simp]def e124_9:=bkF x124_9 rfl
def x124_10:EC:=.rg [m 27 8,o 28 (.bin .sub) [t 27, i 1],m 10 28] false
@[simp]def e124_10:=rgF x124_10 rfl
def x124_11:EC:=.rg [m 29 10,o 30 (.bin .geq) [t 29, i 0]] false
@[simp]def e124_11:=rgF x124_11 rfl
def x124_12:EC:=.cd (t 30) .skip (.ex 2)
@[simp]def e124_12:=cdF x124_12 rfl
def x124_13:EC:=.rg [m 33 0,m 34 6,m 35 0,m 36 6,m 37 10,o 38 (.bin .add) [t 36, t 37],m 39 0,m 40 6,m 41 10,o 42 (.bin .add) [t 40, t 41],o 43 (.iaS 1) [t 39, t 42],o 44 (.load 1 false) [t 43],m 45 0,m 46 6,o 47 (.iaS 1) [t 45, t 46],o 48 (.load 1 false) [t 47],o 49 (.iaS 1) [t 33, t 34],u (.store 1) [t 49, t 44],o 50 (.iaS 1) [t 35, t 38],u (.store 1) [t 50, t 48]] true
@[simp]def e124_13:=rgF x124_13 rfl
def x124_14:EC:=.rg [m 51 0,m 52 7,m 53 10,m 54 6,o 55 (.call 144) [t 51, t 52, t 53, t 54]] false
@[simp]def e124_14:=rgF x124_14 rfl
def x124_15:EC:=.bk 3 (seqs [x124_13,x124_14])
@[simp]def e124_15:=bkF x124_15 rfl
def x124_16:EC:=.rg [m 31 10,o 32 (.bin .sub) [t 31, i 1],m 10 32] false
@[simp]def e124_16:=rgF x124_16 rfl
def x124_17:EC:=.bk 2 (.lp (seqs [(seqs [x124_11,x124_12]),x124_15,x124_16]))
@[simp]def e124_17:=bkF x124_17 rfl
def c_slices_heapSortOrdered_int__124 : EC := (seqs [x124_0,x124_1,x124_2,(seqs [x124_3,x124_9]),x124_10,x124_17])
theorem k_124 : ecF Tryd.prog 124 = some (56, c_slices_heapSortOrdered_int__124, []) := by kernel_rfl

/-- slices.breakPatternsOrdered[int] -/
def x125_0:EC:=.rg [m 11 2,m 12 1,o 13 (.bin .sub) [t 11, t 12],m 6 13] false
@[simp]def e125_0:=rgF x125_0 rfl
def x125_1:EC:=.rg [m 14 6,o 15 (.bin .geq) [t 14, i 8]] false
@[simp]def e125_1:=rgF x125_1 rfl
def x125_2:EC:=.rg [m 16 6,o 17 (.cvI .u64) [t 16],o 7 (.alloc [.t (.int .u64 0)]) [],u (.store 1) [t 7, t 17]] false
@[simp]def e125_2:=rgF x125_2 rfl
def x125_3:EC:=.rg [m 18 6,o 19 (.call 145) [t 18],m 8 19] false
@[simp]def e125_3:=rgF x125_3 rfl
def x125_4:EC:=.rg [m 20 1,m 21 6,o 22 (.bin .quo) [t 21, i 4],o 23 (.bin .mul) [t 22, i 2],o 24 (.bin .add) [t 20, t 23],o 25 (.bin .sub) [t 24, i 1],m 9 25] false
@[simp]def e125_4:=rgF x125_4 rfl
def x125_5:EC:=.rg [m 26 9,m 27 1,m 28 6,o 29 (.bin .quo) [t 28, i 4],o 30 (.bin .mul) [t 29, i 2],o 31 (.bin .add) [t 27, t 30],o 32 (.bin .add) [t 31, i 1],o 33 (.bin .leq) [t 26, t 32]] false
@[simp]def e125_5:=rgF x125_5 rfl
def x125_6:EC:=.cd (t 33) .skip (.ex 0)
@[simp]def e125_6:=cdF x125_6 rfl
def x125_7:EC:=.rg [o 36 (.call 146) [t 7],m 37 8,o 38 (.bin .sub) [t 37, c (.t (.int .u64 1))],o 39 (.bin .and) [t 36, t 38],o 40 (.cvI .i64) [t 39],m 10 40] false
@[simp]def e125_7:=rgF x125_7 rfl
def x125_8:EC:=.rg [m 41 10,m 42 6,o 43 (.bin .geq) [t 41, t 42]] false
@[simp]def e125_8:=rgF x125_8 rfl
def x125_9:EC:=.rg [m 44 10,m 45 6,o 46 (.bin .sub) [t 44, t 45],m 10 46] false
@[simp]def e125_9:=rgF x125_9 rfl
def x125_10:EC:=.cd (t 43) x125_9 .skip
@[simp]def e125_10:=cdF x125_10 rfl
def x125_11:EC:=.rg [m 47 0,m 48 9,m 49 0,m 50 1,m 51 10,o 52 (.bin .add) [t 50, t 51],m 53 0,m 54 1,m 55 10,o 56 (.bin .add) [t 54, t 55],o 57 (.iaS 1) [t 53, t 56],o 58 (.load 1 false) [t 57],m 59 0,m 60 9,o 61 (.iaS 1) [t 59, t 60],o 62 (.load 1 false) [t 61],o 63 (.iaS 1) [t 47, t 48],u (.store 1) [t 63, t 58],o 64 (.iaS 1) [t 49, t 52],u (.store 1) [t 64, t 62]] true
@[simp]def e125_11:=rgF x125_11 rfl
def x125_12:EC:=.bk 1 (seqs [x125_7,(seqs [x125_8,x125_10]),x125_11])
@[simp]def e125_12:=bkF x125_12 rfl
def x125_13:EC:=.rg [m 34 9,o 35 (.bin .add) [t 34, i 1],m 9 35] false
@[simp]def e125_13:=rgF x125_13 rfl
def x125_14:EC:=.bk 0 (.lp (seqs [(seqs [x125_5,x125_6]),x125_12,x125_13]))
@[simp]def e125_14:=bkF x125_14 rfl
def x125_15:EC:=.cd (t 15) (seqs [x125_2,x125_3,x125_4,x125_14]) .skip
@[simp]def e125_15:=cdF x125_15 rfl
def c_slices_breakPatternsOrdered_int__125 : EC := (seqs [x125_0,x125_1,x125_15])
theorem k_125 : ecF Tryd.prog 125 = some (65, c_slices_breakPatternsOrdered_int__125, []) := by kernel_rfl

/-- slices.choosePivotOrdered[int] -/
def x126_0:EC:=.rg [o 6 .mv [i 0],o 7 .mv [i 0]] false
@[simp]def e126_0:=rgF x126_0 rfl
def x126_1:EC:=.rg [m 13 2,m 14 1,o 15 (.bin .sub) [t 13, t 14],m 8 15] false
@[simp]def e126_1:=rgF x126_1 rfl
def x126_2:EC:=.rg [o 9 (.alloc [.t (.int .i64 0)]) []] false
@[simp]def e126_2:=rgF x126_2 rfl
def x126_3:EC:=.rg [m 16 1,m 17 8,o 18 (.bin .quo) [t 17, i 4],o 19 (.bin .mul) [t 18, i 1],o 20 (.bin .add) [t 16, t 19],m 10 20] false
@[simp]def e126_3:=rgF x126_3 rfl
def x126_4:EC:=.rg [m 21 1,m 22 8,o 23 (.bin .quo) [t 22, i 4],o 24 (.bin .mul) [t 23, i 2],o 25 (.bin .add) [t 21, t 24],m 11 25] false
@[simp]def e126_4:=rgF x126_4 rfl
def x126_5:EC:=.rg [m 26 1,m 27 8,o 28 (.bin .quo) [t 27, i 4],o 29 (.bin .mul) [t 28, i 3],o 30 (.bin .add) [t 26, t 29],m 12 30] false
@[simp]def e126_5:=rgF x126_5 rfl
def x126_6:EC:=.rg [m 31 8,o 32 (.bin .geq) [t 31, i 8]] false
@[simp]def e126_6:=rgF x126_6 rfl
def x126_7:EC:=.rg [m 33 8,o 34 (.bin .geq) [t 33, i 50]] false
@[simp]def e126_7:=rgF x126_7 rfl
def x126_8:EC:=.rg [m 35 0,m 36 10,o 37 (.call 147) [t 35, t 36, t 9],m 10 37] false
@[simp]def e126_8:=rgF x126_8 rfl
def x126_9:EC:=.rg [m 38 0,m 39 11,o 40 (.call 147) [t 38, t 39, t 9],m 11 40] false
@[simp]def e126_9:=rgF x126_9 rfl
def x126_10:EC:=.rg [m 41 0,m 42 12,o 43 (.call 147) [t 41, t 42, t 9],m 12 43] false
@[simp]def e126_10:=rgF x126_10 rfl
def x126_11:EC:=.cd (t 34) (seqs [x126_8,x126_9,x126_10]) .skip
@[simp]def e126_11:=cdF x126_11 rfl
def x126_12:EC:=.rg [m 44 0,m 45 10,m 46 11,m 47 12,o 48 (.call 148) [t 44, t 45, t 46, t 47, t 9],m 11 48] false
@[simp]def e126_12:=rgF x126_12 rfl
def x126_13:EC:=.cd (t 32) (seqs [(seqs [x126_7,x126_11]),x126_12]) .skip
@[simp]def e126_13:=cdF x126_13 rfl
def x126_14:EC:=.rg [o 49 (.load 1 false) [t 9]] false
@[simp]def e126_14:=rgF x126_14 rfl
def x126_15:EC:=.rg [o 52 (.bin .eql) [t 49, i 0],m 51 52] false
@[simp]def e126_15:=rgF x126_15 rfl
def x126_16:EC:=.rg [m 53 11,m 6 53,o 7 .mv [i 1]] false
@[simp]def e126_16:=rgF x126_16 rfl
def x126_17:EC:=.rg [o 55 (.bin .eql) [t 49, i 12],m 54 55] false
@[simp]def e126_17:=rgF x126_17 rfl
def x126_18:EC:=.rg [m 56 11,m 6 56,o 7 .mv [i 2]] false
@[simp]def e126_18:=rgF x126_18 rfl
def x126_19:EC:=.rg [m 50 11,m 6 50,o 7 .mv [i 0]] false
@[simp]def e126_19:=rgF x126_19 rfl
def x126_20:EC:=.cd (t 54) (seqs [x126_18,.rt]) (seqs [x126_19,.rt])
@[simp]def e126_20:=cdF x126_20 rfl
def x126_21:EC:=.cd (t 51) (seqs [x126_16,.rt]) (seqs [x126_17,x126_20])
@[simp]def e126_21:=cdF x126_21 rfl
def x126_22:EC:=.bk 0 (seqs [x126_15,x126_21])
@[simp]def e126_22:=bkF x126_22 rfl
def c_slices_choosePivotOrdered_int__126 : EC := (seqs [x126_0,x126_1,x126_2,x126_3,x126_4,x126_5,(seqs [x126_6,x126_13]),x126_14,x126_22])
theorem k_126 : ecF Tryd.prog 126 = some (57, c_slices_choosePivotOrdered_int__126, [.tm 6, .tm 7]) := by kernel_rfl

/-- slices.reverseRangeOrdered[int] -/
def x127_0:EC:=.rg [m 8 1,m 6 8] false
@[simp]def e127_0:=rgF x127_0 rfl
def x127_1:EC:=.rg [m 9 2,o 10 (.bin .sub) [t 9, i 1],m 7 10] false
@[simp]def e127_1:=rgF x127_1 rfl
def x127_2:EC:=.rg [m 11 6,m 12 7,o 13 (.bin .lss) [t 11, t 12]] false
@[simp]def e127_2:=rgF x127_2 rfl
def x127_3:EC:=.cd (t 13) .skip (.ex 0)
@[simp]def e127_3:=cdF x127_3 rfl
def x127_4:EC:=.rg [m 14 0,m 15 6,m 16 0,m 17 7,m 18 0,m 19 7,o 20 (.iaS 1) [t 18, t 19],o 21 (.load 1 false) [t 20],m 22 0,m 23 6,o 24 (.iaS 1) [t 22, t 23],o 25 (.load 1 false) [t 24],o 26 (.iaS 1) [t 14, t 15],u (.store 1) [t 26, t 21],o 27 (.iaS 1) [t 16, t 17],u (.store 1) [t 27, t 25]] true
@[simp]def e127_4:=rgF x127_4 rfl
def x127_5:EC:=.rg [m 28 6,o 29 (.bin .add) [t 28, i 1],m 6 29] false
@[simp]def e127_5:=rgF x127_5 rfl
def x127_6:EC:=.rg [m 30 7,o 31 (.bin .sub) [t 30, i 1],m 7 31] false
@[simp]def e127_6:=rgF x127_6 rfl
def x127_7:EC:=.bk 1 (seqs [x127_4,x127_5,x127_6])
@[simp]def e127_7:=bkF x127_7 rfl
def x127_8:EC:=.bk 0 (.lp (seqs [(seqs [x127_2,x127_3]),x127_7]))
@[simp]def e127_8:=bkF x127_8 rfl
def c_slices_reverseRangeOrdered_int__127 : EC := (seqs [x127_0,x127_1,x127_8])
theorem k_127 : ecF Tryd.prog 127 = some (32, c_slices_reverseRangeOrdered_int__127, []) := by kernel_rfl

/-- slices.partialInsertionSortOrdered[int] -/
def x128_0:EC:=.rg [o 6 .mv [b false]] false
@[simp]def e128_0:=rgF x128_0 rfl
def x128_1:EC:=.rg [m 11 1,o 12 (.bin .add) [t 11, i 1],m 7 12] false
@[simp]def e128_1:=rgF x128_1 rfl
def x128_2:EC:=.rg [o 8 .mv [i 0]] false
@[simp]def e128_2:=rgF x128_2 rfl
def x128_3:EC:=.rg [m 13 8,o 14 (.bin .lss) [t 13, i 5]] false
@[simp]def e128_3:=rgF x128_3 rfl
def x128_4:EC:=.cd (t 14) .skip (.ex 0)
@[simp]def e128_4:=cdF x128_4 rfl
def x128_5:EC:=.rg [m 17 7,m 18 2,o 19 (.bin .lss) [t 17, t 18],m 20 19,y 21 20 .mv [t 0],y 22 20 .mv [t 7],y 23 20 (.iaS 1) [t 21, t 22],y 24 20 (.load 1 false) [t 23],y 25 20 .mv [t 0],y 26 20 .mv [t 7],y 27 20 (.bin .sub) [t 26, i 1],y 28 20 (.iaS 1) [t 25, t 27],y 29 20 (.load 1 false) [t 28],y 30 20 (.call 129) [t 24, t 29],y 31 20 (.un .not) [t 30],o 32 .pick [t 20, t 31, b false]] true
@[simp]def e128_5:=rgF x128_5 rfl
def x128_6:EC:=.cd (t 32) .skip (.ex 2)
@[simp]def e128_6:=cdF x128_6 rfl
def x128_7:EC:=.rg [m 33 7,o 34 (.bin .add) [t 33, i 1],m 7 34] false
@[simp]def e128_7:=rgF x128_7 rfl
def x128_8:EC:=.bk 3 x128_7
@[simp]def e128_8:=bkF x128_8 rfl
def x128_9:EC:=.bk 2 (.lp (seqs [(seqs [x128_5,x128_6]),x128_8]))
@[simp]def e128_9:=bkF x128_9 rfl
def x128_10:EC:=.rg [m 35 7,m 36 2,o 37 (.bin .eql) [t 35, t 36]] false
@[simp]def e128_10:=rgF x128_10 rfl
def x128_11:EC:=.rg [o 6 .mv [b true]] false
@[simp]def e128_11:=rgF x128_11 rfl
def x128_12:EC:=.cd (t 37) (seqs [x128_11,.rt]) .skip
@[simp]def e128_12:=cdF x128_12 rfl
def x128_13:EC:=.rg [m 38 2,m 39 1,o 40 (.bin .sub) [t 38, t 39],o 41 (.bin .lss) [t 40, i 50]] false
@[simp]def e128_13:=rgF x128_13 rfl
def x128_14:EC:=.rg [o 6 .mv [b false]] false
@[simp]def e128_14:=rgF x128_14 rfl
def x128_15:EC:=.cd (t 41) (seqs [x128_14,.rt]) .skip
@[simp]def e128_15:=cdF x128_15 rfl
def x128_16:EC:=.rg [m 42 0,m 43 7,m 44 0,m 45 7,o 46 (.bin .sub) [t 45, i 1],m 47 0,m 48 7,o 49 (.bin .sub) [t 48, i 1],o 50 (.iaS 1) [t 47, t 49],o 51 (.load 1 false) [t 50],m 52 0,m 53 7,o 54 (.iaS 1) [t 52, t 53],o 55 (.load 1 false) [t 54],o 56 (.iaS 1) [t 42, t 43],u (.store 1) [t 56, t 51],o 57 (.iaS 1) [t 44, t 46],u (.store 1) [t 57, t 55]] true
@[simp]def e128_16:=rgF x128_16 rfl
def x128_17:EC:=.rg [m 58 7,m 59 1,o 60 (.bin .sub) [t 58, t 59],o 61 (.bin .geq) [t 60, i 2]] false
@[simp]def e128_17:=rgF x128_17 rfl
def x128_18:EC:=.rg [m 62 7,o 63 (.bin .sub) [t 62, i 1],m 9 63] false
@[simp]def e128_18:=rgF x128_18 rfl
def x128_19:EC:=.rg [m 64 9,o 65 (.bin .geq) [t 64, i 1]] false
@[simp]def e128_19:=rgF x128_19 rfl
def x128_20:EC:=.cd (t 65) .skip (.ex 4)
@[simp]def e128_20:=cdF x128_20 rfl
def x128_21:EC:=.rg [m 68 0,m 69 9,o 70 (.iaS 1) [t 68, t 69],o 71 (.load 1 false) [t 70],m 72 0,m 73 9,o 74 (.bin .sub) [t 73, i 1],o 75 (.iaS 1) [t 72, t 74],o 76 (.load 1 false) [t 75],o 77 (.call 129) [t 71, t 76],o 78 (.un .not) [t 77]] true
@[simp]def e128_21:=rgF x128_21 rfl
def x128_22:EC:=.cd (t 78) (.ex 4) .skip
@[simp]def e128_22:=cdF x128_22 rfl
def x128_23:EC:=.rg [m 79 0,m 80 9,m 81 0,m 82 9,o 83 (.bin .sub) [t 82, i 1],m 84 0,m 85 9,o 86 (.bin .sub) [t 85, i 1],o 87 (.iaS 1) [t 84, t 86],o 88 (.load 1 false) [t 87],m 89 0,m 90 9,o 91 (.iaS 1) [t 89, t 90],o 92 (.load 1 false) [t 91],o 93 (.iaS 1) [t 79, t 80],u (.store 1) [t 93, t 88],o 94 (.iaS 1) [t 81, t 83],u (.store 1) [t 94, t 92]] true
@[simp]def e128_23:=rgF x128_23 rfl
def x128_24:EC:=.bk 5 (seqs [(seqs [x128_21,x128_22]),x128_23])
@[simp]def e128_24:=bkF x128_24 rfl
def x128_25:EC:=.rg [m 66 9,o 67 (.bin .sub) [t 66, i 1],m 9 67] false
@[simp]def e128_25:=rgF x128_25 rfl
def x128_26:EC:=.bk 4 (.lp (seqs [(seqs [x128_19,x128_20]),x128_24,x128_25]))
@[simp]def e128_26:=bkF x128_26 rfl
def x128_27:EC:=.cd (t 61) (seqs [x128_18,x128_26]) .skip
@[simp]def e128_27:=cdF x128_27 rfl
def x128_28:EC:=.rg [m 95 2,m 96 7,o 97 (.bin .sub) [t 95, t 96],o 98 (.bin .geq) [t 97, i 2]] false
@[simp]def e128_28:=rgF x128_28 rfl
def x128_29:EC:=.rg [m 99 7,o 100 (.bin .add) [t 99, i 1],m 10 100] false
@[simp]def e128_29:=rgF x128_29 rfl
def x128_30:EC:=.rg [m 101 10,m 102 2,o 103 (.bin .lss) [t 101, t 102]] false
@[simp]def e128_30:=rgF x128_30 rfl
def x128_31:EC:=.cd (t 103) .skip (.ex 6)
@[simp]def e128_31:=cdF x128_31 rfl
def x128_32:EC:=.rg [m 106 0,m 107 10,o 108 (.iaS 1) [t 106, t 107],o 109 (.load 1 false) [t 108],m 110 0,m 111 10,o 112 (.bin .sub) [t 111, i 1],o 113 (.iaS 1) [t 110, t 112],o 114 (.load 1 false) [t 113],o 115 (.call 129) [t 109, t 114],o 116 (.un .not) [t 115]] true
@[simp]def e128_32:=rgF x128_32 rfl
def x128_33:EC:=.cd (t 116) (.ex 6) .skip
@[simp]def e128_33:=cdF x128_33 rfl
def x128_34:EC:=.rg [m 117 0,m 118 10,m 119 0,m 120 10,o 121 (.bin .sub) [t 120, i 1],m 122 0,m 123 10,o 124 (.bin .sub) [t 123, i 1],o 125 (.iaS 1) [t 122, t 124],o 126 (.load 1 false) [t 125],m 127 0,m 128 10,o 129 (.iaS 1) [t 127, t 128],o 130 (.load 1 false) [t 129],o 131 (.iaS 1) [t 117, t 118],u (.store 1) [t 131, t 126],o 132 (.iaS 1) [t 119, t 121],u (.store 1) [t 132, t 130]] true
@[simp]def e128_34:=rgF x128_34 rfl
def x128_35:EC:=.bk 7 (seqs [(seqs [x128_32,x128_33]),x128_34])
@[simp]def e128_35:=bkF x128_35 rfl
def x128_36:EC:=.rg [m 104 10,o 105 (.bin .add) [t 104, i 1],m 10 105] false
@[simp]def e128_36:=rgF x128_36 rfl
def x128_37:EC:=.bk 6 (.lp (seqs [(seqs [x128_30,x128_31]),x128_35,x128_36]))
@[simp]def e128_37:=bkF x128_37 rfl
def x128_38:EC:=.cd (t 98) (seqs [x128_29,x128_37]) .skip
@[simp]def e128_38:=cdF x128_38 rfl
def x128_39:EC:=.bk 1 (seqs [x128_9,(seqs [x128_10,x128_12]),(seqs [x128_13,x128_15]),x128_16,(seqs [x128_17,x128_27]),x128_28,x128_38])
@[simp]def e128_39:=bkF x128_39 rfl
def x128_40:EC:=.rg [m 15 8,o 16 (.bin .add) [t 15, i 1],m 8 16] false
@[simp]def e128_40:=rgF x128_40 rfl
def x128_41:EC:=.bk 0 (.lp (seqs [(seqs [x128_3,x128_4]),x128_39,x128_40]))
@[simp]def e128_41:=bkF x128_41 rfl
def x128_42:EC:=.rg [o 6 .mv [b false]] false
@[simp]def e128_42:=rgF x128_42 rfl
def c_slices_partialInsertionSortOrdered_int__128 : EC := (seqs [x128_0,x128_1,(seqs [x128_2,x128_41]),x128_42,.rt])
theorem k_128 : ecF Tryd.prog 128 = some (133, c_slices_partialInsertionSortOrdered_int__128, [.tm 6]) := by kernel_rfl

/-- cmp.Less[int] -/
def x129_0:EC:=.rg [o 4 .mv [b false]] false
@[simp]def e129_0:=rgF x129_0 rfl
def x129_1:EC:=.rg [m 5 0,o 6 (.call 149) [t 5],m 7 6,y 8 7 .mv [t 1],y 9 7 (.call 149) [t 8],y 10 7 (.un .not) [t 9],o 11 .pick [t 7, t 10, b false],m 12 11,n 13 12 .mv [t 0],n 14 12 .mv [t 1],n 15 12 (.bin .lss) [t 13, t 14],o 16 .pick [t 12, b true, t 15],m 4 16] false
@[simp]def e129_1:=rgF x129_1 rfl
def c_cmp_Less_int__129 : EC := (seqs [x129_0,x129_1,.rt])
theorem k_129 : ecF Tryd.prog 129 = some (17, c_cmp_Less_int__129, [.tm 4]) := by kernel_rfl

/-- slices.partitionEqualOrdered[int] -/
def x130_0:EC:=.rg [o 8 .mv [i 0]] false
@[simp]def e130_0:=rgF x130_0 rfl
def x130_1:EC:=.rg [m 11 0,m 12 1,m 13 0,m 14 3,m 15 0,m 16 3,o 17 (.iaS 1) [t 15, t 16],o 18 (.load 1 false) [t 17],m 19 0,m 20 1,o 21 (.iaS 1) [t 19, t 20],o 22 (.load 1 false) [t 21],o 23 (.iaS 1) [t 11, t 12],u (.store 1) [t 23, t 18],o 24 (.iaS 1) [t 13, t 14],u (.store 1) [t 24, t 22]] true
@[simp]def e130_1:=rgF x130_1 rfl
def x130_2:EC:=.rg [m 25 1,o 26 (.bin .add) [t 25, i 1],m 27 2,o 28 (.bin .sub) [t 27, i 1],m 9 26,m 10 28] false
@[simp]def e130_2:=rgF x130_2 rfl
def x130_3:EC:=.rg [m 29 9,m 30 10,o 31 (.bin .leq) [t 29, t 30],m 32 31,y 33 32 .mv [t 0],y 34 32 .mv [t 1],y 35 32 (.iaS 1) [t 33, t 34],y 36 32 (.load 1 false) [t 35],y 37 32 .mv [t 0],y 38 32 .mv [t 9],y 39 32 (.iaS 1) [t 37, t 38],y 40 32 (.load 1 false) [t 39],y 41 32 (.call 129) [t 36, t 40],y 42 32 (.un .not) [t 41],o 43 .pick [t 32, t 42, b false]] true
@[simp]def e130_3:=rgF x130_3 rfl
def x130_4:EC:=.cd (t 43) .skip (.ex 2)
@[simp]def e130_4:=cdF x130_4 rfl
def x130_5:EC:=.rg [m 44 9,o 45 (.bin .add) [t 44, i 1],m 9 45] false
@[simp]def e130_5:=rgF x130_5 rfl
def x130_6:EC:=.bk 3 x130_5
@[simp]def e130_6:=bkF x130_6 rfl
def x130_7:EC:=.bk 2 (.lp (seqs [(seqs [x130_3,x130_4]),x130_6]))
@[simp]def e130_7:=bkF x130_7 rfl
def x130_8:EC:=.rg [m 46 9,m 47 10,o 48 (.bin .leq) [t 46, t 47],m 49 48,y 50 49 .mv [t 0],y 51 49 .mv [t 1],y 52 49 (.iaS 1) [t 50, t 51],y 53 49 (.load 1 false) [t 52],y 54 49 .mv [t 0],y 55 49 .mv [t 10],y 56 49 (.iaS 1) [t 54, t 55],y 57 49 (.load 1 false) [t 56],y 58 49 (.call 129) [t 53, t 57],o 59 .pick [t 49, t 58, b false]] true
@[simp]def e130_8:=rgF x130_8 rfl
def x130_9:EC:=.cd (t 59) .skip (.ex 4)
@[simp]def e130_9:=cdF x130_9 rfl
def x130_10:EC:=.rg [m 60 10,o 61 (.bin .sub) [t 60, i 1],m 10 61] false
@[simp]def e130_10:=rgF x130_10 rfl
def x130_11:EC:=.bk 5 x130_10
@[simp]def e130_11:=bkF x130_11 rfl
def x130_12:EC:=.bk 4 (.lp (seqs [(seqs [x130_8,x130_9]),x130_11]))
@[simp]def e130_12:=bkF x130_12 rfl
def x130_13:EC:=.rg [m 62 9,m 63 10,o 64 (.bin .gtr) [t 62, t 63]] false
@[simp]def e130_13:=rgF x130_13 rfl
def x130_14:EC:=.cd (t 64) (.ex 0) .skip
@[simp]def e130_14:=cdF x130_14 rfl
def x130_15:EC:=.rg [m 65 0,m 66 9,m 67 0,m 68 10,m 69 0,m 70 10,o 71 (.iaS 1) [t 69, t 70],o 72 (.load 1 false) [t 71],m 73 0,m 74 9,o 75 (.iaS 1) [t 73, t 74],o 76 (.load 1 false) [t 75],o 77 (.iaS 1) [t 65, t 66],u (.store 1) [t 77, t 72],o 78 (.iaS 1) [t 67, t 68],u (.store 1) [t 78, t 76]] true
@[simp]def e130_15:=rgF x130_15 rfl
def x130_16:EC:=.rg [m 79 9,o 80 (.bin .add) [t 79, i 1],m 9 80] false
@[simp]def e130_16:=rgF x130_16 rfl
def x130_17:EC:=.rg [m 81 10,o 82 (.bin .sub) [t 81, i 1],m 10 82] false
@[simp]def e130_17:=rgF x130_17 rfl
def x130_18:EC:=.bk 1 (seqs [x130_7,x130_12,(seqs [x130_13,x130_14]),x130_15,x130_16,x130_17])
@[simp]def e130_18:=bkF x130_18 rfl
def x130_19:EC:=.bk 0 (.lp x130_18)
@[simp]def e130_19:=bkF x130_19 rfl
def x130_20:EC:=.rg [m 83 9,m 8 83] false
@[simp]def e130_20:=rgF x130_20 rfl
def c_slices_partitionEqualOrdered_int__130 : EC := (seqs [x130_0,x130_1,x130_2,x130_19,x130_20,.rt])
theorem k_130 : ecF Tryd.prog 130 = some (84, c_slices_partitionEqualOrdered_int__130, [.tm 8]) := by kernel_rfl

/-- slices.partitionOrdered[int] -/
def x131_0:EC:=.rg [o 8 .mv [i 0],o 9 .mv [b false]] false
@[simp]def e131_0:=rgF x131_0 rfl
def x131_1:EC:=.rg [m 12 0,m 13 1,m 14 0,m 15 3,m 16 0,m 17 3,o 18 (.iaS 1) [t 16, t 17],o 19 (.load 1 false) [t 18],m 20 0,m 21 1,o 22 (.iaS 1) [t 20, t 21],o 23 (.load 1 false) [t 22],o 24 (.iaS 1) [t 12, t 13],u (.store 1) [t 24, t 19],o 25 (.iaS 1) [t 14, t 15],u (.store 1) [t 25, t 23]] true
@[simp]def e131_1:=rgF x131_1 rfl
def x131_2:EC:=.rg [m 26 1,o 27 (.bin .add) [t 26, i 1],m 28 2,o 29 (.bin .sub) [t 28, i 1],m 10 27,m 11 29] false
@[simp]def e131_2:=rgF x131_2 rfl
def x131_3:EC:=.rg [m 30 10,m 31 11,o 32 (.bin .leq) [t 30, t 31],m 33 32,y 34 33 .mv [t 0],y 35 33 .mv [t 10],y 36 33 (.iaS 1) [t 34, t 35],y 37 33 (.load 1 false) [t 36],y 38 33 .mv [t 0],y 39 33 .mv [t 1],y 40 33 (.iaS 1) [t 38, t 39],y 41 33 (.load 1 false) [t 40],y 42 33 (.call 129) [t 37, t 41],o 43 .pick [t 33, t 42, b false]] true
@[simp]def e131_3:=rgF x131_3 rfl
def x131_4:EC:=.cd (t 43) .skip (.ex 0)
@[simp]def e131_4:=cdF x131_4 rfl
def x131_5:EC:=.rg [m 44 10,o 45 (.bin .add) [t 44, i 1],m 10 45] false
@[simp]def e131_5:=rgF x131_5 rfl
def x131_6:EC:=.bk 1 x131_5
@[simp]def e131_6:=bkF x131_6 rfl
def x131_7:EC:=.bk 0 (.lp (seqs [(seqs [x131_3,x131_4]),x131_6]))
@[simp]def e131_7:=bkF x131_7 rfl
def x131_8:EC:=.rg [m 46 10,m 47 11,o 48 (.bin .leq) [t 46, t 47],m 49 48,y 50 49 .mv [t 0],y 51 49 .mv [t 11],y 52 49 (.iaS 1) [t 50, t 51],y 53 49 (.load 1 false) [t 52],y 54 49 .mv [t 0],y 55 49 .mv [t 1],y 56 49 (.iaS 1) [t 54, t 55],y 57 49 (.load 1 false) [t 56],y 58 49 (.call 129) [t 53, t 57],y 59 49 (.un .not) [t 58],o 60 .pick [t 49, t 59, b false]] true
@[simp]def e131_8:=rgF x131_8 rfl
def x131_9:EC:=.cd (t 60) .skip (.ex 2)
@[simp]def e131_9:=cdF x131_9 rfl
def x131_10:EC:=.rg [m 61 11,o 62 (.bin .sub) [t 61, i 1],m 11 62] false
@[simp]def e131_10:=rgF x131_10 rfl
def x131_11:EC:=.bk 3 x131_10
@[simp]def e131_11:=bkF x131_11 rfl
def x131_12:EC:=.bk 2 (.lp (seqs [(seqs [x131_8,x131_9]),x131_11]))
@[simp]def e131_12:=bkF x131_12 rfl
def x131_13:EC:=.rg [m 63 10,m 64 11,o 65 (.bin .gtr) [t 63, t 64]] false
@[simp]def e131_13:=rgF x131_13 rfl
def x131_14:EC:=.rg [m 66 0,m 67 11,m 68 0,m 69 1,m 70 0,m 71 1,o 72 (.iaS 1) [t 70, t 71],o 73 (.load 1 false) [t 72],m 74 0,m 75 11,o 76 (.iaS 1) [t 74, t 75],o 77 (.load 1 false) [t 76],o 78 (.iaS 1) [t 66, t 67],u (.store 1) [t 78, t 73],o 79 (.iaS 1) [t 68, t 69],u (.store 1) [t 79, t 77]] true
@[simp]def e131_14:=rgF x131_14 rfl
def x131_15:EC:=.rg [m 80 11,m 8 80,o 9 .mv [b true]] false
@[simp]def e131_15:=rgF x131_15 rfl
def x131_16:EC:=.cd (t 65) (seqs [x131_14,x131_15,.rt]) .skip
@[simp]def e131_16:=cdF x131_16 rfl
def x131_17:EC:=.rg [m 81 0,m 82 10,m 83 0,m 84 11,m 85 0,m 86 11,o 87 (.iaS 1) [t 85, t 86],o 88 (.load 1 false) [t 87],m 89 0,m 90 10,o 91 (.iaS 1) [t 89, t 90],o 92 (.load 1 false) [t 91],o 93 (.iaS 1) [t 81, t 82],u (.store 1) [t 93, t 88],o 94 (.iaS 1) [t 83, t 84],u (.store 1) [t 94, t 92]] true
@[simp]def e131_17:=rgF x131_17 rfl
def x131_18:EC:=.rg [m 95 10,o 96 (.bin .add) [t 95, i 1],m 10 96] false
@[simp]def e131_18:=rgF x131_18 rfl
def x131_19:EC:=.rg [m 97 11,o 98 (.bin .sub) [t 97, i 1],m 11 98] false
@[simp]def e131_19:=rgF x131_19 rfl
def x131_20:EC:=.rg [m 99 10,m 100 11,o 101 (.bin .leq) [t 99, t 100],m 102 101,y 103 102 .mv [t 0],y 104 102 .mv [t 10],y 105 102 (.iaS 1) [t 103, t 104],y 106 102 (.load 1 false) [t 105],y 107 102 .mv [t 0],y 108 102 .mv [t 1],y 109 102 (.iaS 1) [t 107, t 108],y 110 102 (.load 1 false) [t 109],y 111 102 (.call 129) [t 106, t 110],o 112 .pick [t 102, t 111, b false]] true
@[simp]def e131_20:=rgF x131_20 rfl
def x131_21:EC:=.cd (t 112) .skip (.ex 6)
@[simp]def e131_21:=cdF x131_21 rfl
def x131_22:EC:=.rg [m 113 10,o 114 (.bin .add) [t 113, i 1],m 10 114] false
@[simp]def e131_22:=rgF x131_22 rfl
def x131_23:EC:=.bk 7 x131_22
@[simp]def e131_23:=bkF x131_23 rfl
def x131_24:EC:=.bk 6 (.lp (seqs [(seqs [x131_20,x131_21]),x131_23]))
@[simp]def e131_24:=bkF x131_24 rfl
def x131_25:EC:=.rg [m 115 10,m 116 11,o 117 (.bin .leq) [t 115, t 116],m 118 117,y 119 118 .mv [t 0],y 120 118 .mv [t 11],y 121 118 (.iaS 1) [t 119, t 120],y 122 118 (.load 1 false) [t 121],y 123 118 .mv [t 0],y 124 118 .mv [t 1],y 125 118 (.iaS 1) [t 123, t 124],y 126 118 (.load 1 false) [t 125],y 127 118 (.call 129) [t 122, t 126],y 128 118 (.un .not) [t 127],o 129 .pick [t 118, t 128, b false]] true
@[simp]def e131_25:=rgF x131_25 rfl
def x131_26:EC:=.cd (t 129) .skip (.ex 8)
@[simp]def e131_26:=cdF x131_26 rfl
def x131_27:EC:=.rg [m 130 11,o 131 (.bin .sub) [t 130, i 1],m 11 131] false
@[simp]def e131_27:=rgF x131_27 rfl
def x131_28:EC:=.bk 9 x131_27
@[simp]def e131_28:=bkF x131_28 rfl
def x131_29:EC:=.bk 8 (.lp (seqs [(seqs [x131_25,x131_26]),x131_28]))
@[simp]def e131_29:=bkF x131_29 rfl
def x131_30:EC:=.rg [m 132 10,m 133 11,o 134 (.bin .gtr) [t 132, t 133]] false
@[simp]def e131_30:=rgF x131_30 rfl
def x131_31:EC:=.cd (t 134) (.ex 4) .skip
@[simp]def e131_31:=cdF x131_31 rfl
def x131_32:EC:=.rg [m 135 0,m 136 10,m 137 0,m 138 11,m 139 0,m 140 11,o 141 (.iaS 1) [t 139, t 140],o 142 (.load 1 false) [t 141],m 143 0,m 144 10,o 145 (.iaS 1) [t 143, t 144],o 146 (.load 1 false) [t 145],o 147 (.iaS 1) [t 135, t 136],u (.store 1) [t 147, t 142],o 148 (.iaS 1) [t 137, t 138],u (.store 1) [t 148, t 146]] true
@[simp]def e131_32:=rgF x131_32 rfl
def x131_33:EC:=.rg [m 149 10,o 150 (.bin .add) [t 149, i 1],m 10 150] false
@[simp]def e131_33:=rgF x131_33 rfl
def x131_34:EC:=.rg [m 151 11,o 152 (.bin .sub) [t 151, i 1],m 11 152] false
@[simp]def e131_34:=rgF x131_34 rfl
def x131_35:EC:=.bk 5 (seqs [x131_24,x131_29,(seqs [x131_30,x131_31]),x131_32,x131_33,x131_34])
@[simp]def e131_35:=bkF x131_35 rfl
def x131_36:EC:=.bk 4 (.lp x131_35)
@[simp]def e131_36:=bkF x131_36 rfl
def x131_37:EC:=.rg [m 153 0,m 154 11,m 155 0,m 156 1,m 157 0,m 158 1,o 159 (.iaS 1) [t 157, t 158],o 160 (.load 1 false) [t 159],m 161 0,m 162 11,o 163 (.iaS 1) [t 161, t 162],o 164 (.load 1 false) [t 163],o 165 (.iaS 1) [t 153, t 154],u (.store 1) [t 165, t 160],o 166 (.iaS 1) [t 155, t 156],u (.store 1) [t 166, t 164]] true
@[simp]def e131_37:=rgF x131_37 rfl
def x131_38:EC:=.rg [m 167 11,m 8 167,o 9 .mv [b false]] false
@[simp]def e131_38:=rgF x131_38 rfl
def c_slices_partitionOrdered_int__131 : EC := (seqs [x131_0,x131_1,x131_2,x131_7,x131_12,(seqs [x131_13,x131_16]),x131_17,x131_18,x131_19,x131_36,x131_37,x131_38,.rt])
theorem k_131 : ecF Tryd.prog 131 = some (168, c_slices_partitionOrdered_int__131, [.tm 8, .tm 9]) := by kernel_rfl

/-- slices.IndexFunc[[]tallystone/syntax.Expr,tallystone/syntax.Expr] -/
def x134_0:EC:=.rg [o 4 .mv [i 0]] false
@[simp]def e134_0:=rgF x134_0 rfl
def x134_1:EC:=.rg [m 6 0,o 7 .lenL [t 6],o 8 .mv [i 0]] false
@[simp]def e134_1:=rgF x134_1 rfl
def x134_2:EC:=.rg [o 9 (.bin .lss) [t 8, t 7]] false
@[simp]def e134_2:=rgF x134_2 rfl
def x134_3:EC:=.cd (t 9) .skip (.ex 0)
@[simp]def e134_3:=cdF x134_3 rfl
def x134_4:EC:=.rg [m 10 8,m 5 10] false
@[simp]def e134_4:=rgF x134_4 rfl
def x134_5:EC:=.rg [m 11 1,m 12 0,m 13 5,o 14 (.iaS 6) [t 12, t 13],o 15 (.load 6 true) [t 14],o 16 .callv [t 11, t 15]] false
@[simp]def e134_5:=rgF x134_5 rfl
def x134_6:EC:=.rg [m 17 5,m 4 17] false
@[simp]def e134_6:=rgF x134_6 rfl
def x134_7:EC:=.cd (t 16) (seqs [x134_6,.rt]) .skip
@[simp]def e134_7:=cdF x134_7 rfl
def x134_8:EC:=.bk 1 (seqs [x134_4,x134_5,x134_7])
@[simp]def e134_8:=bkF x134_8 rfl
def x134_9:EC:=.rg [o 18 (.bin .add) [t 8, i 1],m 8 18] false
@[simp]def e134_9:=rgF x134_9 rfl
def x134_10:EC:=.bk 0 (.lp (seqs [x134_2,x134_3,x134_8,x134_9]))
@[simp]def e134_10:=bkF x134_10 rfl
def x134_11:EC:=.rg [o 4 .mv [i (-1)]] false
@[simp]def e134_11:=rgF x134_11 rfl
def c_syntax_Expr__134 : EC := (seqs [x134_0,(seqs [x134_1,x134_10]),x134_11,.rt])
theorem k_134 : ecF Tryd.prog 134 = some (19, c_syntax_Expr__134, [.tm 4]) := by kernel_rfl

/-- tallystone/token.blank -/
def x135_0:EC:=.rg [o 2 .mv [i 0]] false
@[simp]def e135_0:=rgF x135_0 rfl
def x135_1:EC:=.rg [o 3 .mv [b false]] false
@[simp]def e135_1:=rgF x135_1 rfl
def x135_2:EC:=.rg [m 6 0,o 7 .rngS [t 6]] false
@[simp]def e135_2:=rgF x135_2 rfl
def x135_3:EC:=.rg [o 8 .nxtS [t 7],o 9 (.ext 0) [t 8]] false
@[simp]def e135_3:=rgF x135_3 rfl
def x135_4:EC:=.cd (t 9) .skip (.ex 0)
@[simp]def e135_4:=cdF x135_4 rfl
def x135_5:EC:=.rg [o 10 (.ext 1) [t 8],o 11 (.ext 2) [t 8],m 4 10,m 5 11] false
@[simp]def e135_5:=rgF x135_5 rfl
def x135_6:EC:=.rg [m 13 5,o 14 (.bin .eql) [t 13, c (.t (.int .i32 10))],m 12 14] false
@[simp]def e135_6:=rgF x135_6 rfl
def x135_7:EC:=.cd (t 12) (.ex 3) .skip
@[simp]def e135_7:=cdF x135_7 rfl
def x135_8:EC:=.rg [m 16 3,m 15 16] false
@[simp]def e135_8:=rgF x135_8 rfl
def x135_9:EC:=.rg [m 17 5,o 18 (.bin .eql) [t 17, c (.t (.int .i32 32))],m 15 18] false
@[simp]def e135_9:=rgF x135_9 rfl
def x135_10:EC:=.rg [m 19 5,o 20 (.bin .eql) [t 19, c (.t (.int .i32 9))],m 15 20] false
@[simp]def e135_10:=rgF x135_10 rfl
def x135_11:EC:=.rg [m 21 5,o 22 (.bin .eql) [t 21, c (.t (.int .i32 13))],m 15 22] false
@[simp]def e135_11:=rgF x135_11 rfl
def x135_12:EC:=.cd (t 15) .skip x135_11
@[simp]def e135_12:=cdF x135_12 rfl
def x135_13:EC:=.cd (t 15) .skip (seqs [x135_10,x135_12])
@[simp]def e135_13:=cdF x135_13 rfl
def x135_14:EC:=.cd (t 15) .skip (seqs [x135_9,x135_13])
@[simp]def e135_14:=cdF x135_14 rfl
def x135_15:EC:=.cd (t 15) (.ex 4) .skip
@[simp]def e135_15:=cdF x135_15 rfl
def x135_16:EC:=.rg [m 24 5,o 25 (.bin .eql) [t 24, c (.t (.int .i32 35))],m 23 25] false
@[simp]def e135_16:=rgF x135_16 rfl
def x135_17:EC:=.cd (t 23) (.ex 5) .skip
@[simp]def e135_17:=cdF x135_17 rfl
def x135_18:EC:=.bk 3 (seqs [(seqs [(seqs [x135_6,x135_7]),(seqs [(seqs [x135_8,x135_14]),x135_15]),x135_16,x135_17]),(.ex 6)])
@[simp]def e135_18:=bkF x135_18 rfl
def x135_19:EC:=.rg [o 3 .mv [b false]] false
@[simp]def e135_19:=rgF x135_19 rfl
def x135_20:EC:=.bk 4 (seqs [x135_18,x135_19])
@[simp]def e135_20:=bkF x135_20 rfl
def x135_21:EC:=.bk 5 (seqs [x135_20,(.ex 2)])
@[simp]def e135_21:=bkF x135_21 rfl
def x135_22:EC:=.rg [o 3 .mv [b true]] false
@[simp]def e135_22:=rgF x135_22 rfl
def x135_23:EC:=.bk 6 (seqs [x135_21,x135_22,(.ex 2)])
@[simp]def e135_23:=bkF x135_23 rfl
def x135_24:EC:=.rg [m 26 4,m 2 26] false
@[simp]def e135_24:=rgF x135_24 rfl
def x135_25:EC:=.bk 2 (seqs [x135_23,(seqs [x135_24,.rt]),(.ex 2)])
@[simp]def e135_25:=bkF x135_25 rfl
def x135_26:EC:=.bk 1 (seqs [x135_5,x135_25])
@[simp]def e135_26:=bkF x135_26 rfl
def x135_27:EC:=.bk 0 (.lp (seqs [x135_3,x135_4,x135_26]))
@[simp]def e135_27:=bkF x135_27 rfl
def x135_28:EC:=.rg [m 27 0,o 28 .lenS [t 27],m 2 28] false
@[simp]def e135_28:=rgF x135_28 rfl
def c_token_blank_135 : EC := (seqs [x135_0,x135_1,(seqs [x135_2,x135_27]),x135_28,.rt])
theorem k_135 : ecF Tryd.prog 135 = some (29, c_token_blank_135, [.tm 2]) := by kernel_rfl

/-- tallystone/token.next -/
def x136_0:EC:=.rg [o 2 .mv [i 0],o 3 .mv [i 0]] false
@[simp]def e136_0:=rgF x136_0 rfl
def x136_1:EC:=.rg [m 5 0,o 6 .ixS [t 5, i 0],o 7 (.call 150) [t 6],m 4 7] false
@[simp]def e136_1:=rgF x136_1 rfl
def x136_2:EC:=.rg [m 8 0,o 9 (.call 151) [t 8, c (.fn (.func 152) [])],o 2 .mv [i 1],m 3 9] false
@[simp]def e136_2:=rgF x136_2 rfl
def x136_3:EC:=.rg [m 11 0,o 12 .ixS [t 11, i 0],o 13 (.call 153) [t 12],m 10 13] false
@[simp]def e136_3:=rgF x136_3 rfl
def x136_4:EC:=.rg [m 14 0,o 15 (.call 151) [t 14, c (.fn (.func 153) [])],o 2 .mv [i 2],m 3 15] false
@[simp]def e136_4:=rgF x136_4 rfl
def x136_5:EC:=.rg [m 17 0,o 18 .lenS [t 17],o 19 (.bin .gtr) [t 18, i 1],m 20 19,y 21 20 (.call 155) [c (.t (.str [46, 46, 32, 60, 61, 32, 62, 61, 32, 33, 61]))],y 22 20 .mv [t 0],y 23 20 (.slS false true) [t 22, i 2],y 24 20 (.call 154) [t 21, t 23],o 25 .pick [t 20, t 24, b false],m 16 25] true
@[simp]def e136_5:=rgF x136_5 rfl
def x136_6:EC:=.rg [o 2 .mv [i 3],o 3 .mv [i 2]] false
@[simp]def e136_6:=rgF x136_6 rfl
def x136_7:EC:=.rg [m 27 0,o 28 .ixS [t 27, i 0],o 29 (.call 156) [c (.t (.str [123, 125, 40, 41, 44, 59, 61, 43, 45, 42, 60, 62])), t 28],o 30 (.bin .geq) [t 29, i 0],m 26 30] false
@[simp]def e136_7:=rgF x136_7 rfl
def x136_8:EC:=.rg [o 2 .mv [i 3],o 3 .mv [i 1]] false
@[simp]def e136_8:=rgF x136_8 rfl
def x136_9:EC:=.cd (t 26) (seqs [x136_8,.rt]) .skip
@[simp]def e136_9:=cdF x136_9 rfl
def x136_10:EC:=.cd (t 16) (seqs [x136_6,.rt]) (seqs [x136_7,x136_9])
@[simp]def e136_10:=cdF x136_10 rfl
def x136_11:EC:=.cd (t 10) (seqs [x136_4,.rt]) (seqs [x136_5,x136_10])
@[simp]def e136_11:=cdF x136_11 rfl
def x136_12:EC:=.cd (t 4) (seqs [x136_2,.rt]) (seqs [x136_3,x136_11])
@[simp]def e136_12:=cdF x136_12 rfl
def x136_13:EC:=.bk 0 (seqs [x136_1,x136_12])
@[simp]def e136_13:=bkF x136_13 rfl
def x136_14:EC:=.rg [o 2 .mv [i 0],o 3 .mv [i 0]] false
@[simp]def e136_14:=rgF x136_14 rfl
def c_token_next_136 : EC := (seqs [x136_0,x136_13,x136_14,.rt])
theorem k_136 : ecF Tryd.prog 136 = some (31, c_token_next_136, [.tm 2, .tm 3]) := by kernel_rfl

/-- tallystone/token.Value -/
def x137_0:EC:=.rg [o 1 .box [t 0],o 2 .mv [i 0],o 3 .mv [b false]] false
@[simp]def e137_0:=rgF x137_0 rfl
def x137_1:EC:=.rg [o 7 (.faddr 0) [t 1],o 8 (.load 1 false) [t 7],o 9 (.bin .neq) [t 8, i 2],m 10 9,n 11 10 (.faddr 1) [t 1],n 12 10 (.load 1 false) [t 11],n 13 10 (.bin .eql) [t 12, c (.t (.str []))],o 14 .pick [t 10, b true, t 13],m 15 14,n 16 15 (.faddr 1) [t 1],n 17 15 (.load 1 false) [t 16],n 18 15 (.call 151) [t 17, c (.fn (.func 153) [])],n 19 15 (.faddr 1) [t 1],n 20 15 (.load 1 false) [t 19],n 21 15 .lenS [t 20],n 22 15 (.bin .lss) [t 18, t 21],o 23 .pick [t 15, b true, t 22]] true
@[simp]def e137_1:=rgF x137_1 rfl
def x137_2:EC:=.rg [o 2 .mv [i 0],o 3 .mv [b false]] false
@[simp]def e137_2:=rgF x137_2 rfl
def x137_3:EC:=.cd (t 23) (seqs [x137_2,.rt]) .skip
@[simp]def e137_3:=cdF x137_3 rfl
def x137_4:EC:=.rg [o 4 .mv [i 0]] false
@[simp]def e137_4:=rgF x137_4 rfl
def x137_5:EC:=.rg [o 24 (.faddr 1) [t 1],o 25 (.load 1 false) [t 24],o 26 .rngS [t 25]] false
@[simp]def e137_5:=rgF x137_5 rfl
def x137_6:EC:=.rg [o 27 .nxtS [t 26],o 28 (.ext 0) [t 27]] false
@[simp]def e137_6:=rgF x137_6 rfl
def x137_7:EC:=.cd (t 28) .skip (.ex 0)
@[simp]def e137_7:=cdF x137_7 rfl
def x137_8:EC:=.rg [o 29 (.ext 2) [t 27],m 6 29] false
@[simp]def e137_8:=rgF x137_8 rfl
def x137_9:EC:=.rg [m 30 4,o 31 (.bin .mul) [i 10, t 30],m 32 6,o 33 (.bin .sub) [t 32, c (.t (.int .i32 48))],o 34 (.cvI .i64) [t 33],o 35 (.bin .add) [t 31, t 34],m 4 35] false
@[simp]def e137_9:=rgF x137_9 rfl
def x137_10:EC:=.rg [m 36 4,o 37 (.bin .gtr) [t 36, i 1000000000000]] false
@[simp]def e137_10:=rgF x137_10 rfl
def x137_11:EC:=.rg [o 2 .mv [i 0],o 3 .mv [b false]] false
@[simp]def e137_11:=rgF x137_11 rfl
def x137_12:EC:=.cd (t 37) (seqs [x137_11,.rt]) .skip
@[simp]def e137_12:=cdF x137_12 rfl
def x137_13:EC:=.bk 1 (seqs [x137_8,x137_9,x137_10,x137_12])
@[simp]def e137_13:=bkF x137_13 rfl
def x137_14:EC:=.bk 0 (.lp (seqs [x137_6,x137_7,x137_13]))
@[simp]def e137_14:=bkF x137_14 rfl
def x137_15:EC:=.rg [m 38 4,m 2 38,o 3 .mv [b true]] false
@[simp]def e137_15:=rgF x137_15 rfl
def c_token_Value_137 : EC := (seqs [x137_0,(seqs [x137_1,x137_3]),x137_4,(seqs [x137_5,x137_14]),x137_15,.rt])
theorem k_137 : ecF Tryd.prog 137 = some (39, c_token_Value_137, [.tm 2, .tm 3]) := by kernel_rfl

/-- tallystone/syntax.args -/
def x138_0:EC:=.rg [o 2 .mv [i 0]] false
@[simp]def e138_0:=rgF x138_0 rfl
def x138_1:EC:=.rg [m 4 0,o 5 (.bin .geq) [t 4, i 3],m 6 5,y 7 6 .mv [t 0],y 8 6 (.bin .leq) [t 7, i 6],o 9 .pick [t 6, t 8, b false],m 3 9] false
@[simp]def e138_1:=rgF x138_1 rfl
def x138_2:EC:=.rg [m 10 0,o 11 (.bin .eql) [t 10, i 20],m 3 11] false
@[simp]def e138_2:=rgF x138_2 rfl
def x138_3:EC:=.cd (t 3) .skip x138_2
@[simp]def e138_3:=cdF x138_3 rfl
def x138_4:EC:=.rg [o 2 .mv [i 1]] false
@[simp]def e138_4:=rgF x138_4 rfl
def x138_5:EC:=.rg [m 13 0,o 14 (.bin .geq) [t 13, i 7],m 15 14,y 16 15 .mv [t 0],y 17 15 (.bin .leq) [t 16, i 19],o 18 .pick [t 15, t 17, b false],m 12 18] false
@[simp]def e138_5:=rgF x138_5 rfl
def x138_6:EC:=.rg [o 2 .mv [i 2]] false
@[simp]def e138_6:=rgF x138_6 rfl
def x138_7:EC:=.cd (t 12) (seqs [x138_6,.rt]) .skip
@[simp]def e138_7:=cdF x138_7 rfl
def x138_8:EC:=.cd (t 3) (seqs [x138_4,.rt]) (seqs [x138_5,x138_7])
@[simp]def e138_8:=cdF x138_8 rfl
def x138_9:EC:=.bk 0 (seqs [(seqs [x138_1,x138_3]),x138_8])
@[simp]def e138_9:=bkF x138_9 rfl
def x138_10:EC:=.rg [o 2 .mv [i 0]] false
@[simp]def e138_10:=rgF x138_10 rfl
def c_syntax_args_138 : EC := (seqs [x138_0,x138_9,x138_10,.rt])
theorem k_138 : ecF Tryd.prog 138 = some (19, c_syntax_args_138, [.tm 2]) := by kernel_rfl

/-- tallystone/syntax.proper$1 -/
def x139_0:EC:=.rg [o 1 .box [t 0],o 2 .mv [b false]] false
@[simp]def e139_0:=rgF x139_0 rfl
def x139_1:EC:=.rg [o 3 (.load 6 true) [t 1],o 4 (.call 115) [t 3],o 5 (.un .not) [t 4],m 2 5] false
@[simp]def e139_1:=rgF x139_1 rfl
def c_syntax_properS1_139 : EC := (seqs [x139_0,x139_1,.rt])
theorem k_139 : ecF Tryd.prog 139 = some (6, c_syntax_properS1_139, [.tm 2]) := by kernel_rfl

/-- internal/strconv.small -/
def x140_0:EC:=.rg [o 2 .mv [c (.t (.str []))]] false
@[simp]def e140_0:=rgF x140_0 rfl
def x140_1:EC:=.rg [m 3 0,o 4 (.bin .lss) [t 3, i 10]] false
@[simp]def e140_1:=rgF x140_1 rfl
def x140_2:EC:=.rg [m 5 0,m 6 0,o 7 (.bin .add) [t 6, i 1],o 8 (.slS true true) [c (.t (.str [48, 49, 50, 51, 52, 53, 54, 55, 56, 57, 97, 98, 99, 100, 101, 102, 103, 104, 105, 106, 107, 108, 109, 110, 111, 112, 113, 114, 115, 116, 117, 118, 119, 120, 121, 122])), t 5, t 7],m 2 8] false
@[simp]def e140_2:=rgF x140_2 rfl
def x140_3:EC:=.cd (t 4) (seqs [x140_2,.rt]) .skip
@[simp]def e140_3:=cdF x140_3 rfl
def x140_4:EC:=.rg [m 9 0,o 10 (.bin .mul) [t 9, i 2],m 11 0,o 12 (.bin .mul) [t 11, i 2],o 13 (.bin .add) [t 12, i 2],o 14 (.slS true true) [c (.t (.str [48, 48, 48, 49, 48, 50, 48, 51, 48, 52, 48, 53, 48, 54, 48, 55, 48, 56, 48, 57, 49, 48, 49, 49, 49, 50, 49, 51, 49, 52, 49, 53, 49, 54, 49, 55, 49, 56, 49, 57, 50, 48, 50, 49, 50, 50, 50, 51, 50, 52, 50, 53, 50, 54, 50, 55, 50, 56, 50, 57, 51, 48, 51, 49, 51, 50, 51, 51, 51, 52, 51, 53, 51, 54, 51, 55, 51, 56, 51, 57, 52, 48, 52, 49, 52, 50, 52, 51, 52, 52, 52, 53, 52, 54, 52, 55, 52, 56, 52, 57, 53, 48, 53, 49, 53, 50, 53, 51, 53, 52, 53, 53, 53, 54, 53, 55, 53, 56, 53, 57, 54, 48, 54, 49, 54, 50, 54, 51, 54, 52, 54, 53, 54, 54, 54, 55, 54, 56, 54, 57, 55, 48, 55, 49, 55, 50, 55, 51, 55, 52, 55, 53, 55, 54, 55, 55, 55, 56, 55, 57, 56, 48, 56, 49, 56, 50, 56, 51, 56, 52, 56, 53, 56, 54, 56, 55, 56, 56, 56, 57, 57, 48, 57, 49, 57, 50, 57, 51, 57, 52, 57, 53, 57, 54, 57, 55, 57, 56, 57, 57])), t 10, t 13],m 2 14] false
@[simp]def e140_4:=rgF x140_4 rfl
def c_strconv_small_140 : EC := (seqs [x140_0,(seqs [x140_1,x140_3]),x140_4,.rt])
theorem k_140 : ecF Tryd.prog 140 = some (15, c_strconv_small_140, [.tm 2]) := by kernel_rfl

/-- internal/strconv.formatBase10 -/
def x142_0:EC:=.rg [m 17 0,o 18 .lenL [t 17],m 4 18] false
@[simp]def e142_0:=rgF x142_0 rfl
def x142_1:EC:=.rg [m 19 4,o 20 (.bin .geq) [t 19, i 8]] false
@[simp]def e142_1:=rgF x142_1 rfl
def x142_2:EC:=.cd (t 20) .skip (.ex 0)
@[simp]def e142_2:=cdF x142_2 rfl
def x142_3:EC:=.rg [m 21 1,o 22 (.bin .rem) [t 21, c (.t (.int .u64 100000000))],o 23 (.cvI .u32) [t 22],m 5 23] false
@[simp]def e142_3:=rgF x142_3 rfl
def x142_4:EC:=.rg [m 24 1,o 25 (.bin .quo) [t 24, c (.t (.int .u64 100000000))],m 1 25] false
@[simp]def e142_4:=rgF x142_4 rfl
def x142_5:EC:=.rg [m 26 5,o 27 (.bin .quo) [t 26, c (.t (.int .u32 10000))],m 28 5,o 29 (.bin .rem) [t 28, c (.t (.int .u32 10000))],m 6 27,m 7 29] false
@[simp]def e142_5:=rgF x142_5 rfl
def x142_6:EC:=.rg [m 30 7,o 31 (.bin .quo) [t 30, c (.t (.int .u32 100))],o 32 (.bin .mul) [t 31, c (.t (.int .u32 2))],m 33 7,o 34 (.bin .rem) [t 33, c (.t (.int .u32 100))],o 35 (.bin .mul) [t 34, c (.t (.int .u32 2))],m 8 32,m 9 35] false
@[simp]def e142_6:=rgF x142_6 rfl
def x142_7:EC:=.rg [m 36 6,o 37 (.bin .quo) [t 36, c (.t (.int .u32 100))],o 38 (.bin .mul) [t 37, c (.t (.int .u32 2))],m 39 6,o 40 (.bin .rem) [t 39, c (.t (.int .u32 100))],o 41 (.bin .mul) [t 40, c (.t (.int .u32 2))],m 10 38,m 11 41] false
@[simp]def e142_7:=rgF x142_7 rfl
def x142_8:EC:=.rg [m 42 0,m 43 4,o 44 (.bin .sub) [t 43, i 1],m 45 0,m 46 4,o 47 (.bin .sub) [t 46, i 2],m 48 9,o 49 (.bin .add) [t 48, c (.t (.int .u32 1))],o 50 .ixS [c (.t (.str [48, 48, 48, 49, 48, 50, 48, 51, 48, 52, 48, 53, 48, 54, 48, 55, 48, 56, 48, 57, 49, 48, 49, 49, 49, 50, 49, 51, 49, 52, 49, 53, 49, 54, 49, 55, 49, 56, 49, 57, 50, 48, 50, 49, 50, 50, 50, 51, 50, 52, 50, 53, 50, 54, 50, 55, 50, 56, 50, 57, 51, 48, 51, 49, 51, 50, 51, 51, 51, 52, 51, 53, 51, 54, 51, 55, 51, 56, 51, 57, 52, 48, 52, 49, 52, 50, 52, 51, 52, 52, 52, 53, 52, 54, 52, 55, 52, 56, 52, 57, 53, 48, 53, 49, 53, 50, 53, 51, 53, 52, 53, 53, 53, 54, 53, 55, 53, 56, 53, 57, 54, 48, 54, 49, 54, 50, 54, 51, 54, 52, 54, 53, 54, 54, 54, 55, 54, 56, 54, 57, 55, 48, 55, 49, 55, 50, 55, 51, 55, 52, 55, 53, 55, 54, 55, 55, 55, 56, 55, 57, 56, 48, 56, 49, 56, 50, 56, 51, 56, 52, 56, 53, 56, 54, 56, 55, 56, 56, 56, 57, 57, 48, 57, 49, 57, 50, 57, 51, 57, 52, 57, 53, 57, 54, 57, 55, 57, 56, 57, 57])), t 49],m 51 9,o 52 .ixS [c (.t (.str [48, 48, 48, 49, 48, 50, 48, 51, 48, 52, 48, 53, 48, 54, 48, 55, 48, 56, 48, 57, 49, 48, 49, 49, 49, 50, 49, 51, 49, 52, 49, 53, 49, 54, 49, 55, 49, 56, 49, 57, 50, 48, 50, 49, 50, 50, 50, 51, 50, 52, 50, 53, 50, 54, 50, 55, 50, 56, 50, 57, 51, 48, 51, 49, 51, 50, 51, 51, 51, 52, 51, 53, 51, 54, 51, 55, 51, 56, 51, 57, 52, 48, 52, 49, 52, 50, 52, 51, 52, 52, 52, 53, 52, 54, 52, 55, 52, 56, 52, 57, 53, 48, 53, 49, 53, 50, 53, 51, 53, 52, 53, 53, 53, 54, 53, 55, 53, 56, 53, 57, 54, 48, 54, 49, 54, 50, 54, 51, 54, 52, 54, 53, 54, 54, 54, 55, 54, 56, 54, 57, 55, 48, 55, 49, 55, 50, 55, 51, 55, 52, 55, 53, 55, 54, 55, 55, 55, 56, 55, 57, 56, 48, 56, 49, 56, 50, 56, 51, 56, 52, 56, 53, 56, 54, 56, 55, 56, 56, 56, 57, 57, 48, 57, 49, 57, 50, 57, 51, 57, 52, 57, 53, 57, 54, 57, 55, 57, 56, 57, 57])), t 51],o 53 (.iaS 1) [t 42, t 44],u (.store 1) [t 53, t 50],o 54 (.iaS 1) [t 45, t 47],u (.store 1) [t 54, t 52]] true
@[simp]def e142_8:=rgF x142_8 rfl
def x142_9:EC:=.rg [m 55 0,m 56 4,o 57 (.bin .sub) [t 56, i 3],m 58 0,m 59 4,o 60 (.bin .sub) [t 59, i 4],m 61 8,o 62 (.bin .add) [t 61, c (.t (.int .u32 1))],o 63 .ixS [c (.t (.str [48, 48, 48, 49, 48, 50, 48, 51, 48, 52, 48, 53, 48, 54, 48, 55, 48, 56, 48, 57, 49, 48, 49, 49, 49, 50, 49, 51, 49, 52, 49, 53, 49, 54, 49, 55, 49, 56, 49, 57, 50, 48, 50, 49, 50, 50, 50, 51, 50, 52, 50, 53, 50, 54, 50, 55, 50, 56, 50, 57, 51, 48, 51, 49, 51, 50, 51, 51, 51, 52, 51, 53, 51, 54, 51, 55, 51, 56, 51, 57, 52, 48, 52, 49, 52, 50, 52, 51, 52, 52, 52, 53, 52, 54, 52, 55, 52, 56, 52, 57, 53, 48, 53, 49, 53, 50, 53, 51, 53, 52, 53, 53, 53, 54, 53, 55, 53, 56, 53, 57, 54, 48, 54, 49, 54, 50, 54, 51, 54, 52, 54, 53, 54, 54, 54, 55, 54, 56, 54, 57, 55, 48, 55, 49, 55, 50, 55, 51, 55, 52, 55, 53, 55, 54, 55, 55, 55, 56, 55, 57, 56, 48, 56, 49, 56, 50, 56, 51, 56, 52, 56, 53, 56, 54, 56, 55, 56, 56, 56, 57, 57, 48, 57, 49, 57, 50, 57, 51, 57, 52, 57, 53, 57, 54, 57, 55, 57, 56, 57, 57])), t 62],m 64 8,o 65 .ixS [c (.t (.str [48, 48, 48, 49, 48, 50, 48, 51, 48, 52, 48, 53, 48, 54, 48, 55, 48, 56, 48, 57, 49, 48, 49, 49, 49, 50, 49, 51, 49, 52, 49, 53, 49, 54, 49, 55, 49, 56, 49, 57, 50, 48, 50, 49, 50, 50, 50, 51, 50, 52, 50, 53, 50, 54, 50, 55, 50, 56, 50, 57, 51, 48, 51, 49, 51, 50, 51, 51, 51, 52, 51, 53, 51, 54, 51, 55, 51, 56, 51, 57, 52, 48, 52, 49, 52, 50, 52, 51, 52, 52, 52, 53, 52, 54, 52, 55, 52, 56, 52, 57, 53, 48, 53, 49, 53, 50, 53, 51, 53, 52, 53, 53, 53, 54, 53, 55, 53, 56, 53, 57, 54, 48, 54, 49, 54, 50, 54, 51, 54, 52, 54, 53, 54, 54, 54, 55, 54, 56, 54, 57, 55, 48, 55, 49, 55, 50, 55, 51, 55, 52, 55, 53, 55, 54, 55, 55, 55, 56, 55, 57, 56, 48, 56, 49, 56, 50, 56, 51, 56, 52, 56, 53, 56, 54, 56, 55, 56, 56, 56, 57, 57, 48, 57, 49, 57, 50, 57, 51, 57, 52, 57, 53, 57, 54, 57, 55, 57, 56, 57, 57])), t 64],o 66 (.iaS 1) [t 55, t 57],u (.store 1) [t 66, t 63],o 67 (.iaS 1) [t 58, t 60],u (.store 1) [t 67, t 65]] true
@[simp]def e142_9:=rgF x142_9 rfl
def x142_10:EC:=.rg [m 68 0,m 69 4,o 70 (.bin .sub) [t 69, i 5],m 71 0,m 72 4,o 73 (.bin .sub) [t 72, i 6],m 74 11,o 75 (.bin .add) [t 74, c (.t (.int .u32 1))],o 76 .ixS [c (.t (.str [48, 48, 48, 49, 48, 50, 48, 51, 48, 52, 48, 53, 48, 54, 48, 55, 48, 56, 48, 57, 49, 48, 49, 49, 49, 50, 49, 51, 49, 52, 49, 53, 49, 54, 49, 55, 49, 56, 49, 57, 50, 48, 50, 49, 50, 50, 50, 51, 50, 52, 50, 53, 50, 54, 50, 55, 50, 56, 50, 57, 51, 48, 51, 49, 51, 50, 51, 51, 51, 52, 51, 53, 51, 54, 51, 55, 51, 56, 51, 57, 52, 48, 52, 49, 52, 50, 52, 51, 52, 52, 52, 53, 52, 54, 52, 55, 52, 56, 52, 57, 53, 48, 53, 49, 53, 50, 53, 51, 53, 52, 53, 53, 53, 54, 53, 55, 53, 56, 53, 57, 54, 48, 54, 49, 54, 50, 54, 51, 54, 52, 54, 53, 54, 54, 54, 55, 54, 56, 54, 57, 55, 48, 55, 49, 55, 50, 55, 51, 55, 52, 55, 53, 55, 54, 55, 55, 55, 56, 55, 57, 56, 48, 56, 49, 56, 50, 56, 51, 56, 52, 56, 53, 56, 54, 56, 55, 56, 56, 56, 57, 57, 48, 57, 49, 57, 50, 57, 51, 57, 52, 57, 53, 57, 54, 57, 55, 57, 56, 57, 57])), t 75],m 77 11,o 78 .ixS [c (.t (.str [48, 48, 48, 49, 48, 50, 48, 51, 48, 52, 48, 53, 48, 54, 48, 55, 48, 56, 48, 57, 49, 48, 49, 49, 49, 50, 49, 51, 49, 52, 49, 53, 49, 54, 49, 55, 49, 56, 49, 57, 50, 48, 50, 49, 50, 50, 50, 51, 50, 52, 50, 53, 50, 54, 50, 55, 50, 56, 50, 57, 51, 48, 51, 49, 51, 50, 51, 51, 51, 52, 51, 53, 51, 54, 51, 55, 51, 56, 51, 57, 52, 48, 52, 49, 52, 50, 52, 51, 52, 52, 52, 53, 52, 54, 52, 55, 52, 56, 52, 57, 53, 48, 53, 49, 53, 50, 53, 51, 53, 52, 53, 53, 53, 54, 53, 55, 53, 56, 53, 57, 54, 48, 54, 49, 54, 50, 54, 51, 54, 52, 54, 53, 54, 54, 54, 55, 54, 56, 54, 57, 55, 48, 55, 49, 55, 50, 55, 51, 55, 52, 55, 53, 55, 54, 55, 55, 55, 56, 55, 57, 56, 48, 56, 49, 56, 50, 56, 51, 56, 52, 56, 53, 56, 54, 56, 55, 56, 56, 56, 57, 57, 48, 57, 49, 57, 50, 57, 51, 57, 52, 57, 53, 57, 54, 57, 55, 57, 56, 57, 57])), t 77],o 79 (.iaS 1) [t 68, t 70],u (.store 1) [t 79, t 76],o 80 (.iaS 1) [t 71, t 73],u (.store 1) [t 80, t 78]] true
@[simp]def e142_10:=rgF x142_10 rfl
def x142_11:EC:=.rg [m 81 0,m 82 4,o 83 (.bin .sub) [t 82, i 7],m 84 0,m 85 4,o 86 (.bin .sub) [t 85, i 8],m 87 10,o 88 (.bin .add) [t 87, c (.t (.int .u32 1))],o 89 .ixS [c (.t (.str [48, 48, 48, 49, 48, 50, 48, 51, 48, 52, 48, 53, 48, 54, 48, 55, 48, 56, 48, 57, 49, 48, 49, 49, 49, 50, 49, 51, 49, 52, 49, 53, 49, 54, 49, 55, 49, 56, 49, 57, 50, 48, 50, 49, 50, 50, 50, 51, 50, 52, 50, 53, 50, 54, 50, 55, 50, 56, 50, 57, 51, 48, 51, 49, 51, 50, 51, 51, 51, 52, 51, 53, 51, 54, 51, 55, 51, 56, 51, 57, 52, 48, 52, 49, 52, 50, 52, 51, 52, 52, 52, 53, 52, 54, 52, 55, 52, 56, 52, 57, 53, 48, 53, 49, 53, 50, 53, 51, 53, 52, 53, 53, 53, 54, 53, 55, 53, 56, 53, 57, 54, 48, 54, 49, 54, 50, 54, 51, 54, 52, 54, 53, 54, 54, 54, 55, 54, 56, 54, 57, 55, 48, 55, 49, 55, 50, 55, 51, 55, 52, 55, 53, 55, 54, 55, 55, 55, 56, 55, 57, 56, 48, 56, 49, 56, 50, 56, 51, 56, 52, 56, 53, 56, 54, 56, 55, 56, 56, 56, 57, 57, 48, 57, 49, 57, 50, 57, 51, 57, 52, 57, 53, 57, 54, 57, 55, 57, 56, 57, 57])), t 88],m 90 10,o 91 .ixS [c (.t (.str [48, 48, 48, 49, 48, 50, 48, 51, 48, 52, 48, 53, 48, 54, 48, 55, 48, 56, 48, 57, 49, 48, 49, 49, 49, 50, 49, 51, 49, 52, 49, 53, 49, 54, 49, 55, 49, 56, 49, 57, 50, 48, 50, 49, 50, 50, 50, 51, 50, 52, 50, 53, 50, 54, 50, 55, 50, 56, 50, 57, 51, 48, 51, 49, 51, 50, 51, 51, 51, 52, 51, 53, 51, 54, 51, 55, 51, 56, 51, 57, 52, 48, 52, 49, 52, 50, 52, 51, 52, 52, 52, 53, 52, 54, 52, 55, 52, 56, 52, 57, 53, 48, 53, 49, 53, 50, 53, 51, 53, 52, 53, 53, 53, 54, 53, 55, 53, 56, 53, 57, 54, 48, 54, 49, 54, 50, 54, 51, 54, 52, 54, 53, 54, 54, 54, 55, 54, 56, 54, 57, 55, 48, 55, 49, 55, 50, 55, 51, 55, 52, 55, 53, 55, 54, 55, 55, 55, 56, 55, 57, 56, 48, 56, 49, 56, 50, 56, 51, 56, 52, 56, 53, 56, 54, 56, 55, 56, 56, 56, 57, 57, 48, 57, 49, 57, 50, 57, 51, 57, 52, 57, 53, 57, 54, 57, 55, 57, 56, 57, 57])), t 90],o 92 (.iaS 1) [t 81, t 83],u (.store 1) [t 92, t 89],o 93 (.iaS 1) [t 84, t 86],u (.store 1) [t 93, t 91]] true
@[simp]def e142_11:=rgF x142_11 rfl
def x142_12:EC:=.rg [m 94 4,o 95 (.bin .sub) [t 94, i 8],m 4 95] false
@[simp]def e142_12:=rgF x142_12 rfl
def x142_13:EC:=.bk 1 (seqs [x142_3,x142_4,x142_5,x142_6,x142_7,x142_8,x142_9,x142_10,x142_11,x142_12])
@[simp]def e142_13:=bkF x142_13 rfl
def x142_14:EC:=.bk 0 (.lp (seqs [(seqs [x142_1,x142_2]),x142_13]))
@[simp]def e142_14:=bkF x142_14 rfl
def x142_15:EC:=.rg [m 96 1,o 97 (.cvI .u32) [t 96],m 12 97] false
@[simp]def e142_15:=rgF x142_15 rfl
def x142_16:EC:=.rg [m 98 4,o 99 (.bin .geq) [t 98, i 4]] false
@[simp]def e142_16:=rgF x142_16 rfl
def x142_17:EC:=.rg [m 100 12,o 101 (.bin .rem) [t 100, c (.t (.int .u32 10000))],m 13 101] false
@[simp]def e142_17:=rgF x142_17 rfl
def x142_18:EC:=.rg [m 102 12,o 103 (.bin .quo) [t 102, c (.t (.int .u32 10000))],m 12 103] false
@[simp]def e142_18:=rgF x142_18 rfl
def x142_19:EC:=.rg [m 104 13,o 105 (.bin .quo) [t 104, c (.t (.int .u32 100))],o 106 (.bin .mul) [t 105, c (.t (.int .u32 2))],m 107 13,o 108 (.bin .rem) [t 107, c (.t (.int .u32 100))],o 109 (.bin .mul) [t 108, c (.t (.int .u32 2))],m 14 106,m 15 109] false
@[simp]def e142_19:=rgF x142_19 rfl
def x142_20:EC:=.rg [m 110 0,m 111 4,o 112 (.bin .sub) [t 111, i 1],m 113 0,m 114 4,o 115 (.bin .sub) [t 114, i 2],m 116 15,o 117 (.bin .add) [t 116, c (.t (.int .u32 1))],o 118 .ixS [c (.t (.str [48, 48, 48, 49, 48, 50, 48, 51, 48, 52, 48, 53, 48, 54, 48, 55, 48, 56, 48, 57, 49, 48, 49, 49, 49, 50, 49, 51, 49, 52, 49, 53, 49, 54, 49, 55, 49, 56, 49, 57, 50, 48, 50, 49, 50, 50, 50, 51, 50, 52, 50, 53, 50, 54, 50, 55, 50, 56, 50, 57, 51, 48, 51, 49, 51, 50, 51, 51, 51, 52, 51, 53, 51, 54, 51, 55, 51, 56, 51, 57, 52, 48, 52, 49, 52, 50, 52, 51, 52, 52, 52, 53, 52, 54, 52, 55, 52, 56, 52, 57, 53, 48, 53, 49, 53, 50, 53, 51, 53, 52, 53, 53, 53, 54, 53, 55, 53, 56, 53, 57, 54, 48, 54, 49, 54, 50, 54, 51, 54, 52, 54, 53, 54, 54, 54, 55, 54, 56, 54, 57, 55, 48, 55, 49, 55, 50, 55, 51, 55, 52, 55, 53, 55, 54, 55, 55, 55, 56, 55, 57, 56, 48, 56, 49, 56, 50, 56, 51, 56, 52, 56, 53, 56, 54, 56, 55, 56, 56, 56, 57, 57, 48, 57, 49, 57, 50, 57, 51, 57, 52, 57, 53, 57, 54, 57, 55, 57, 56, 57, 57])), t 117],m 119 15,o 120 .ixS [c (.t (.str [48, 48, 48, 49, 48, 50, 48, 51, 48, 52, 48, 53, 48, 54, 48, 55, 48, 56, 48, 57, 49, 48, 49, 49, 49, 50, 49, 51, 49, 52, 49, 53, 49, 54, 49, 55, 49, 56, 49, 57, 50, 48, 50, 49, 50, 50, 50, 51, 50, 52, 50, 53, 50, 54, 50, 55, 50, 56, 50, 57, 51, 48, 51, 49, 51, 50, 51, 51, 51, 52, 51, 53, 51, 54, 51, 55, 51, 56, 51, 57, 52, 48, 52, 49, 52, 50, 52, 51, 52, 52, 52, 53, 52, 54, 52, 55, 52, 56, 52, 57, 53, 48, 53, 49, 53, 50, 53, 51, 53, 52, 53, 53, 53, 54, 53, 55, 53, 56, 53, 57, 54, 48, 54, 49, 54, 50, 54, 51, 54, 52, 54, 53, 54, 54, 54, 55, 54, 56, 54, 57, 55, 48, 55, 49, 55, 50, 55, 51, 55, 52, 55, 53, 55, 54, 55, 55, 55, 56, 55, 57, 56, 48, 56, 49, 56, 50, 56, 51, 56, 52, 56, 53, 56, 54, 56, 55, 56, 56, 56, 57, 57, 48, 57, 49, 57, 50, 57, 51, 57, 52, 57, 53, 57, 54, 57, 55, 57, 56, 57, 57])), t 119],o 121 (.iaS 1) [t 110, t 112],u (.store 1) [t 121, t 118],o 122 (.iaS 1) [t 113, t 115],u (.store 1) [t 122, t 120]] true
@[simp]def e142_20:=rgF x142_20 rfl
def x142_21:EC:=.rg [m 123 0,m 124 4,o 125 (.bin .sub) [t 124, i 3],m 126 0,m 127 4,o 128 (.bin .sub) [t 127, i 4],m 129 14,o 130 (.bin .add) [t 129, c (.t (.int .u32 1))],o 131 .ixS [c (.t (.str [48, 48, 48, 49, 48, 50, 48, 51, 48, 52, 48, 53, 48, 54, 48, 55, 48, 56, 48, 57, 49, 48, 49, 49, 49, 50, 49, 51, 49, 52, 49, 53, 49, 54, 49, 55, 49, 56, 49, 57, 50, 48, 50, 49, 50, 50, 50, 51, 50, 52, 50, 53, 50, 54, 50, 55, 50, 56, 50, 57, 51, 48, 51, 49, 51, 50, 51, 51, 51, 52, 51, 53, 51, 54, 51, 55, 51, 56, 51, 57, 52, 48, 52, 49, 52, 50, 52, 51, 52, 52, 52, 53, 52, 54, 52, 55, 52, 56, 52, 57, 53, 48, 53, 49, 53, 50, 53, 51, 53, 52, 53, 53, 53, 54, 53, 55, 53, 56, 53, 57, 54, 48, 54, 49, 54, 50, 54, 51, 54, 52, 54, 53, 54, 54, 54, 55, 54, 56, 54, 57, 55, 48, 55, 49, 55, 50, 55, 51, 55, 52, 55, 53, 55, 54, 55, 55, 55, 56, 55, 57, 56, 48, 56, 49, 56, 50, 56, 51, 56, 52, 56, 53, 56, 54, 56, 55, 56, 56, 56, 57, 57, 48, 57, 49, 57, 50, 57, 51, 57, 52, 57, 53, 57, 54, 57, 55, 57, 56, 57, 57])), t 130],m 132 14,o 133 .ixS [c (.t (.str [48, 48, 48, 49, 48, 50, 48, 51, 48, 52, 48, 53, 48, 54, 48, 55, 48, 56, 48, 57, 49, 48, 49, 49, 49, 50, 49, 51, 49, 52, 49, 53, 49, 54, 49, 55, 49, 56, 49, 57, 50, 48, 50, 49, 50, 50, 50, 51, 50, 52, 50, 53, 50, 54, 50, 55, 50, 56, 50, 57, 51, 48, 51, 49, 51, 50, 51, 51, 51, 52, 51, 53, 51, 54, 51, 55, 51, 56, 51, 57, 52, 48, 52, 49, 52, 50, 52, 51, 52, 52, 52, 53, 52, 54, 52, 55, 52, 56, 52, 57, 53, 48, 53, 49, 53, 50, 53, 51, 53, 52, 53, 53, 53, 54, 53, 55, 53, 56, 53, 57, 54, 48, 54, 49, 54, 50, 54, 51, 54, 52, 54, 53, 54, 54, 54, 55, 54, 56, 54, 57, 55, 48, 55, 49, 55, 50, 55, 51, 55, 52, 55, 53, 55, 54, 55, 55, 55, 56, 55, 57, 56, 48, 56, 49, 56, 50, 56, 51, 56, 52, 56, 53, 56, 54, 56, 55, 56, 56, 56, 57, 57, 48, 57, 49, 57, 50, 57, 51, 57, 52, 57, 53, 57, 54, 57, 55, 57, 56, 57, 57])), t 132],o 134 (.iaS 1) [t 123, t 125],u (.store 1) [t 134, t 131],o 135 (.iaS 1) [t 126, t 128],u (.store 1) [t 135, t 133]] true
@[simp]def e142_21:=rgF x142_21 rfl
def x142_22:EC:=.rg [m 136 4,o 137 (.bin .sub) [t 136, i 4],m 4 137] false
@[simp]def e142_22:=rgF x142_22 rfl
def x142_23:EC:=.cd (t 99) (seqs [x142_17,x142_18,x142_19,x142_20,x142_21,x142_22]) .skip
@[simp]def e142_23:=cdF x142_23 rfl
def x142_24:EC:=.rg [m 138 4,o 139 (.bin .geq) [t 138, i 2]] false
@[simp]def e142_24:=rgF x142_24 rfl
def x142_25:EC:=.rg [m 140 12,o 141 (.bin .rem) [t 140, c (.t (.int .u32 100))],o 142 (.bin .mul) [t 141, c (.t (.int .u32 2))],m 16 142] false
@[simp]def e142_25:=rgF x142_25 rfl
def x142_26:EC:=.rg [m 143 12,o 144 (.bin .quo) [t 143, c (.t (.int .u32 100))],m 12 144] false
@[simp]def e142_26:=rgF x142_26 rfl
def x142_27:EC:=.rg [m 145 0,m 146 4,o 147 (.bin .sub) [t 146, i 1],m 148 0,m 149 4,o 150 (.bin .sub) [t 149, i 2],m 151 16,o 152 (.bin .add) [t 151, c (.t (.int .u32 1))],o 153 .ixS [c (.t (.str [48, 48, 48, 49, 48, 50, 48, 51, 48, 52, 48, 53, 48, 54, 48, 55, 48, 56, 48, 57, 49, 48, 49, 49, 49, 50, 49, 51, 49, 52, 49, 53, 49, 54, 49, 55, 49, 56, 49, 57, 50, 48, 50, 49, 50, 50, 50, 51, 50, 52, 50, 53, 50, 54, 50, 55, 50, 56, 50, 57, 51, 48, 51, 49, 51, 50, 51, 51, 51, 52, 51, 53, 51, 54, 51, 55, 51, 56, 51, 57, 52, 48, 52, 49, 52, 50, 52, 51, 52, 52, 52, 53, 52, 54, 52, 55, 52, 56, 52, 57, 53, 48, 53, 49, 53, 50, 53, 51, 53, 52, 53, 53, 53, 54, 53, 55, 53, 56, 53, 57, 54, 48, 54, 49, 54, 50, 54, 51, 54, 52, 54, 53, 54, 54, 54, 55, 54, 56, 54, 57, 55, 48, 55, 49, 55, 50, 55, 51, 55, 52, 55, 53, 55, 54, 55, 55, 55, 56, 55, 57, 56, 48, 56, 49, 56, 50, 56, 51, 56, 52, 56, 53, 56, 54, 56, 55, 56, 56, 56, 57, 57, 48, 57, 49, 57, 50, 57, 51, 57, 52, 57, 53, 57, 54, 57, 55, 57, 56, 57, 57])), t 152],m 154 16,o 155 .ixS [c (.t (.str [48, 48, 48, 49, 48, 50, 48, 51, 48, 52, 48, 53, 48, 54, 48, 55, 48, 56, 48, 57, 49, 48, 49, 49, 49, 50, 49, 51, 49, 52, 49, 53, 49, 54, 49, 55, 49, 56, 49, 57, 50, 48, 50, 49, 50, 50, 50, 51, 50, 52, 50, 53, 50, 54, 50, 55, 50, 56, 50, 57, 51, 48, 51, 49, 51, 50, 51, 51, 51, 52, 51, 53, 51, 54, 51, 55, 51, 56, 51, 57, 52, 48, 52, 49, 52, 50, 52, 51, 52, 52, 52, 53, 52, 54, 52, 55, 52, 56, 52, 57, 53, 48, 53, 49, 53, 50, 53, 51, 53, 52, 53, 53, 53, 54, 53, 55, 53, 56, 53, 57, 54, 48, 54, 49, 54, 50, 54, 51, 54, 52, 54, 53, 54, 54, 54, 55, 54, 56, 54, 57, 55, 48, 55, 49, 55, 50, 55, 51, 55, 52, 55, 53, 55, 54, 55, 55, 55, 56, 55, 57, 56, 48, 56, 49, 56, 50, 56, 51, 56, 52, 56, 53, 56, 54, 56, 55, 56, 56, 56, 57, 57, 48, 57, 49, 57, 50, 57, 51, 57, 52, 57, 53, 57, 54, 57, 55, 57, 56, 57, 57])), t 154],o 156 (.iaS 1) [t 145, t 147],u (.store 1) [t 156, t 153],o 157 (.iaS 1) [t 148, t 150],u (.store 1) [t 157, t 155]] true
@[simp]def e142_27:=rgF x142_27 rfl
def x142_28:EC:=.rg [m 158 4,o 159 (.bin .sub) [t 158, i 2],m 4 159] false
@[simp]def e142_28:=rgF x142_28 rfl
def x142_29:EC:=.cd (t 139) (seqs [x142_25,x142_26,x142_27,x142_28]) .skip
@[simp]def e142_29:=cdF x142_29 rfl
def x142_30:EC:=.rg [m 160 4,o 161 (.bin .gtr) [t 160, i 0]] false
@[simp]def e142_30:=rgF x142_30 rfl
def x142_31:EC:=.rg [m 162 0,m 163 12,o 164 (.bin .add) [c (.t (.int .u32 48)), t 163],o 165 (.cvI .u8) [t 164],o 166 (.iaS 1) [t 162, i 0],u (.store 1) [t 166, t 165]] false
@[simp]def e142_31:=rgF x142_31 rfl
def x142_32:EC:=.cd (t 161) x142_31 .skip
@[simp]def e142_32:=cdF x142_32 rfl
def c_strconv_formatBase10_142 : EC := (seqs [x142_0,x142_14,x142_15,(seqs [x142_16,x142_23]),(seqs [x142_24,x142_29]),x142_30,x142_32])
theorem k_142 : ecF Tryd.prog 142 = some (167, c_strconv_formatBase10_142, []) := by kernel_rfl

/-- slices.siftDownOrdered[int] -/
def x144_0:EC:=.rg [m 10 1,m 8 10] false
@[simp]def e144_0:=rgF x144_0 rfl
def x144_1:EC:=.rg [m 11 8,o 12 (.bin .mul) [i 2, t 11],o 13 (.bin .add) [t 12, i 1],m 9 13] false
@[simp]def e144_1:=rgF x144_1 rfl
def x144_2:EC:=.rg [m 14 9,m 15 2,o 16 (.bin .geq) [t 14, t 15]] false
@[simp]def e144_2:=rgF x144_2 rfl
def x144_3:EC:=.cd (t 16) (.ex 0) .skip
@[simp]def e144_3:=cdF x144_3 rfl
def x144_4:EC:=.rg [m 17 9,o 18 (.bin .add) [t 17, i 1],m 19 2,o 20 (.bin .lss) [t 18, t 19],m 21 20,y 22 21 .mv [t 0],y 23 21 .mv [t 3],y 24 21 .mv [t 9],y 25 21 (.bin .add) [t 23, t 24],y 26 21 (.iaS 1) [t 22, t 25],y 27 21 (.load 1 false) [t 26],y 28 21 .mv [t 0],y 29 21 .mv [t 3],y 30 21 .mv [t 9],y 31 21 (.bin .add) [t 29, t 30],y 32 21 (.bin .add) [t 31, i 1],y 33 21 (.iaS 1) [t 28, t 32],y 34 21 (.load 1 false) [t 33],y 35 21 (.call 129) [t 27, t 34],o 36 .pick [t 21, t 35, b false]] true
@[simp]def e144_4:=rgF x144_4 rfl
def x144_5:EC:=.rg [m 37 9,o 38 (.bin .add) [t 37, i 1],m 9 38] false
@[simp]def e144_5:=rgF x144_5 rfl
def x144_6:EC:=.cd (t 36) x144_5 .skip
@[simp]def e144_6:=cdF x144_6 rfl
def x144_7:EC:=.rg [m 39 0,m 40 3,m 41 8,o 42 (.bin .add) [t 40, t 41],o 43 (.iaS 1) [t 39, t 42],o 44 (.load 1 false) [t 43],m 45 0,m 46 3,m 47 9,o 48 (.bin .add) [t 46, t 47],o 49 (.iaS 1) [t 45, t 48],o 50 (.load 1 false) [t 49],o 51 (.call 129) [t 44, t 50],o 52 (.un .not) [t 51]] true
@[simp]def e144_7:=rgF x144_7 rfl
def x144_8:EC:=.cd (t 52) .rt .skip
@[simp]def e144_8:=cdF x144_8 rfl
def x144_9:EC:=.rg [m 53 0,m 54 3,m 55 8,o 56 (.bin .add) [t 54, t 55],m 57 0,m 58 3,m 59 9,o 60 (.bin .add) [t 58, t 59],m 61 0,m 62 3,m 63 9,o 64 (.bin .add) [t 62, t 63],o 65 (.iaS 1) [t 61, t 64],o 66 (.load 1 false) [t 65],m 67 0,m 68 3,m 69 8,o 70 (.bin .add) [t 68, t 69],o 71 (.iaS 1) [t 67, t 70],o 72 (.load 1 false) [t 71],o 73 (.iaS 1) [t 53, t 56],u (.store 1) [t 73, t 66],o 74 (.iaS 1) [t 57, t 60],u (.store 1) [t 74, t 72]] true
@[simp]def e144_9:=rgF x144_9 rfl
def x144_10:EC:=.rg [m 75 9,m 8 75] false
@[simp]def e144_10:=rgF x144_10 rfl
def x144_11:EC:=.bk 1 (seqs [x144_1,(seqs [x144_2,x144_3]),(seqs [x144_4,x144_6]),(seqs [x144_7,x144_8]),x144_9,x144_10])
@[simp]def e144_11:=bkF x144_11 rfl
def x144_12:EC:=.bk 0 (.lp x144_11)
@[simp]def e144_12:=bkF x144_12 rfl
def c_slices_siftDownOrdered_int__144 : EC := (seqs [x144_0,x144_12])
theorem k_144 : ecF Tryd.prog 144 = some (76, c_slices_siftDownOrdered_int__144, []) := by kernel_rfl

/-- slices.medianAdjacentOrdered[int] -/
def x147_0:EC:=.rg [o 6 .mv [i 0]] false
@[simp]def e147_0:=rgF x147_0 rfl
def x147_1:EC:=.rg [m 7 0,m 8 1,o 9 (.bin .sub) [t 8, i 1],m 10 1,m 11 1,o 12 (.bin .add) [t 11, i 1],m 13 2,o 14 (.call 148) [t 7, t 9, t 10, t 12, t 13],m 6 14] false
@[simp]def e147_1:=rgF x147_1 rfl
def c_slices_medianAdjacentOrdered_int__147 : EC := (seqs [x147_0,x147_1,.rt])
theorem k_147 : ecF Tryd.prog 147 = some (15, c_slices_medianAdjacentOrdered_int__147, [.tm 6]) := by kernel_rfl

/-- slices.medianOrdered[int] -/
def x148_0:EC:=.rg [o 10 .mv [i 0]] false
@[simp]def e148_0:=rgF x148_0 rfl
def x148_1:EC:=.rg [m 12 0,m 13 1,m 14 2,m 15 4,o 16 (.call 161) [t 12, t 13, t 14, t 15],m 11 16,o 17 (.ext 0) [t 11],o 18 (.ext 1) [t 11],m 1 17,m 2 18] false
@[simp]def e148_1:=rgF x148_1 rfl
def x148_2:EC:=.rg [m 20 0,m 21 2,m 22 3,m 23 4,o 24 (.call 161) [t 20, t 21, t 22, t 23],m 19 24,o 25 (.ext 0) [t 19],o 26 (.ext 1) [t 19],m 2 25,m 3 26] false
@[simp]def e148_2:=rgF x148_2 rfl
def x148_3:EC:=.rg [m 28 0,m 29 1,m 30 2,m 31 4,o 32 (.call 161) [t 28, t 29, t 30, t 31],m 27 32,o 33 (.ext 0) [t 27],o 34 (.ext 1) [t 27],m 1 33,m 2 34] false
@[simp]def e148_3:=rgF x148_3 rfl
def x148_4:EC:=.rg [m 35 2,m 10 35] false
@[simp]def e148_4:=rgF x148_4 rfl
def c_slices_medianOrdered_int__148 : EC := (seqs [x148_0,x148_1,x148_2,x148_3,x148_4,.rt])
theorem k_148 : ecF Tryd.prog 148 = some (36, c_slices_medianOrdered_int__148, [.tm 10]) := by kernel_rfl

/-- cmp.isNaN[int] -/
def x149_0:EC:=.rg [o 2 .mv [b false]] false
@[simp]def e149_0:=rgF x149_0 rfl
def x149_1:EC:=.rg [m 3 0,m 4 0,o 5 (.bin .neq) [t 3, t 4],m 2 5] false
@[simp]def e149_1:=rgF x149_1 rfl
def c_cmp_isNaN_int__149 : EC := (seqs [x149_0,x149_1,.rt])
theorem k_149 : ecF Tryd.prog 149 = some (6, c_cmp_isNaN_int__149, [.tm 2]) := by kernel_rfl

/-- tallystone/token.letter -/
def x150_0:EC:=.rg [o 2 .mv [b false]] false
@[simp]def e150_0:=rgF x150_0 rfl
def x150_1:EC:=.rg [m 3 0,o 4 (.bin .geq) [t 3, c (.t (.int .u8 97))],m 5 4,y 6 5 .mv [t 0],y 7 5 (.bin .leq) [t 6, c (.t (.int .u8 122))],o 8 .pick [t 5, t 7, b false],m 2 8] false
@[simp]def e150_1:=rgF x150_1 rfl
def c_token_letter_150 : EC := (seqs [x150_0,x150_1,.rt])
theorem k_150 : ecF Tryd.prog 150 = some (9, c_token_letter_150, [.tm 2]) := by kernel_rfl

/-- tallystone/token.run -/
def x151_0:EC:=.rg [o 4 .mv [i 0]] false
@[simp]def e151_0:=rgF x151_0 rfl
def x151_1:EC:=.rg [m 6 0,o 7 .lenS [t 6],o 8 .mv [i 0]] false
@[simp]def e151_1:=rgF x151_1 rfl
def x151_2:EC:=.rg [o 9 (.bin .lss) [t 8, t 7]] false
@[simp]def e151_2:=rgF x151_2 rfl
def x151_3:EC:=.cd (t 9) .skip (.ex 0)
@[simp]def e151_3:=cdF x151_3 rfl
def x151_4:EC:=.rg [m 10 8,m 5 10] false
@[simp]def e151_4:=rgF x151_4 rfl
def x151_5:EC:=.rg [m 11 1,m 12 0,m 13 5,o 14 .ixS [t 12, t 13],o 15 .callv [t 11, t 14],o 16 (.un .not) [t 15]] false
@[simp]def e151_5:=rgF x151_5 rfl
def x151_6:EC:=.rg [m 17 5,m 4 17] false
@[simp]def e151_6:=rgF x151_6 rfl
def x151_7:EC:=.cd (t 16) (seqs [x151_6,.rt]) .skip
@[simp]def e151_7:=cdF x151_7 rfl
def x151_8:EC:=.bk 1 (seqs [x151_4,x151_5,x151_7])
@[simp]def e151_8:=bkF x151_8 rfl
def x151_9:EC:=.rg [o 18 (.bin .add) [t 8, i 1],m 8 18] false
@[simp]def e151_9:=rgF x151_9 rfl
def x151_10:EC:=.bk 0 (.lp (seqs [x151_2,x151_3,x151_8,x151_9]))
@[simp]def e151_10:=bkF x151_10 rfl
def x151_11:EC:=.rg [m 19 0,o 20 .lenS [t 19],m 4 20] false
@[simp]def e151_11:=rgF x151_11 rfl
def c_token_run_151 : EC := (seqs [x151_0,(seqs [x151_1,x151_10]),x151_11,.rt])
theorem k_151 : ecF Tryd.prog 151 = some (21, c_token_run_151, [.tm 4]) := by kernel_rfl

/-- tallystone/token.next$1 -/
def x152_0:EC:=.rg [o 2 .mv [b false]] false
@[simp]def e152_0:=rgF x152_0 rfl
def x152_1:EC:=.rg [m 3 0,o 4 (.call 150) [t 3],m 5 4,n 6 5 .mv [t 0],n 7 5 (.call 153) [t 6],o 8 .pick [t 5, b true, t 7],m 9 8,n 10 9 .mv [t 0],n 11 9 (.bin .eql) [t 10, c (.t (.int .u8 95))],o 12 .pick [t 9, b true, t 11],m 2 12] false
@[simp]def e152_1:=rgF x152_1 rfl
def c_token_nextS1_152 : EC := (seqs [x152_0,x152_1,.rt])
theorem k_152 : ecF Tryd.prog 152 = some (13, c_token_nextS1_152, [.tm 2]) := by kernel_rfl

/-- tallystone/token.digit -/
def x153_0:EC:=.rg [o 2 .mv [b false]] false
@[simp]def e153_0:=rgF x153_0 rfl
def x153_1:EC:=.rg [m 3 0,o 4 (.bin .geq) [t 3, c (.t (.int .u8 48))],m 5 4,y 6 5 .mv [t 0],y 7 5 (.bin .leq) [t 6, c (.t (.int .u8 57))],o 8 .pick [t 5, t 7, b false],m 2 8] false
@[simp]def e153_1:=rgF x153_1 rfl
def c_token_digit_153 : EC := (seqs [x153_0,x153_1,.rt])
theorem k_153 : ecF Tryd.prog 153 = some (9, c_token_digit_153, [.tm 2]) := by kernel_rfl

/-- slices.Contains[[]string,string] -/
def x154_0:EC:=.rg [o 4 .mv [b false]] false
@[simp]def e154_0:=rgF x154_0 rfl
def x154_1:EC:=.rg [m 5 0,m 6 1,o 7 (.call 162) [t 5, t 6],o 8 (.bin .geq) [t 7, i 0],m 4 8] false
@[simp]def e154_1:=rgF x154_1 rfl
def c_slices_Contains___string_string__154 : EC := (seqs [x154_0,x154_1,.rt])
theorem k_154 : ecF Tryd.prog 154 = some (9, c_slices_Contains___string_string__154, [.tm 4]) := by kernel_rfl

/-- strings.Fields -/
def x155_0:EC:=.rg [o 2 .mv [c (.snil)]] false
@[simp]def e155_0:=rgF x155_0 rfl
def x155_1:EC:=.rg [o 3 .mv [i 0]] false
@[simp]def e155_1:=rgF x155_1 rfl
def x155_2:EC:=.rg [o 4 .mv [i 1]] false
@[simp]def e155_2:=rgF x155_2 rfl
def x155_3:EC:=.rg [o 5 .mv [c (.t (.int .u8 0))]] false
@[simp]def e155_3:=rgF x155_3 rfl
def x155_4:EC:=.rg [o 6 .mv [i 0]] false
@[simp]def e155_4:=rgF x155_4 rfl
def x155_5:EC:=.rg [m 13 6,m 14 0,o 15 .lenS [t 14],o 16 (.bin .lss) [t 13, t 15]] false
@[simp]def e155_5:=rgF x155_5 rfl
def x155_6:EC:=.cd (t 16) .skip (.ex 0)
@[simp]def e155_6:=cdF x155_6 rfl
def x155_7:EC:=.rg [m 19 0,m 20 6,o 21 .ixS [t 19, t 20],m 7 21] false
@[simp]def e155_7:=rgF x155_7 rfl
def x155_8:EC:=.rg [m 22 5,m 23 7,o 24 (.bin .or) [t 22, t 23],m 5 24] false
@[simp]def e155_8:=rgF x155_8 rfl
def x155_9:EC:=.rg [m 25 7,o 26 (.iaA 256 1) [c (laidTp 1), t 25],o 27 (.load 1 false) [t 26],o 28 (.cvI .i64) [t 27],m 8 28] false
@[simp]def e155_9:=rgF x155_9 rfl
def x155_10:EC:=.rg [m 29 3,m 30 4,m 31 8,o 32 (.un .xor) [t 31],o 33 (.bin .and) [t 30, t 32],o 34 (.bin .add) [t 29, t 33],m 3 34] false
@[simp]def e155_10:=rgF x155_10 rfl
def x155_11:EC:=.rg [m 35 8,m 4 35] false
@[simp]def e155_11:=rgF x155_11 rfl
def x155_12:EC:=.bk 1 (seqs [x155_7,x155_8,x155_9,x155_10,x155_11])
@[simp]def e155_12:=bkF x155_12 rfl
def x155_13:EC:=.rg [m 17 6,o 18 (.bin .add) [t 17, i 1],m 6 18] false
@[simp]def e155_13:=rgF x155_13 rfl
def x155_14:EC:=.bk 0 (.lp (seqs [(seqs [x155_5,x155_6]),x155_12,x155_13]))
@[simp]def e155_14:=bkF x155_14 rfl
def x155_15:EC:=.rg [m 36 5,o 37 (.bin .geq) [t 36, c (.t (.int .u8 128))]] false
@[simp]def e155_15:=rgF x155_15 rfl
def x155_16:EC:=.rg [m 38 0,o 39 (.call 163) [t 38, c (.fn (.func 164) [])],m 2 39] false
@[simp]def e155_16:=rgF x155_16 rfl
def x155_17:EC:=.cd (t 37) (seqs [x155_16,.rt]) .skip
@[simp]def e155_17:=cdF x155_17 rfl
def x155_18:EC:=.rg [m 40 3,o 41 (.mks 9 1 16 [.t (.str [])]) [t 40, t 40],m 9 41] false
@[simp]def e155_18:=rgF x155_18 rfl
def x155_19:EC:=.rg [o 10 .mv [i 0]] false
@[simp]def e155_19:=rgF x155_19 rfl
def x155_20:EC:=.rg [o 11 .mv [i 0]] false
@[simp]def e155_20:=rgF x155_20 rfl
def x155_21:EC:=.rg [o 12 .mv [i 0]] false
@[simp]def e155_21:=rgF x155_21 rfl
def x155_22:EC:=.rg [m 42 12,m 43 0,o 44 .lenS [t 43],o 45 (.bin .lss) [t 42, t 44],m 46 45,y 47 46 .mv [t 0],y 48 46 .mv [t 12],y 49 46 .ixS [t 47, t 48],y 50 46 (.iaA 256 1) [c (laidTp 1), t 49],y 51 46 (.load 1 false) [t 50],y 52 46 (.bin .neq) [t 51, c (.t (.int .u8 0))],o 53 .pick [t 46, t 52, b false]] false
@[simp]def e155_22:=rgF x155_22 rfl
def x155_23:EC:=.cd (t 53) .skip (.ex 2)
@[simp]def e155_23:=cdF x155_23 rfl
def x155_24:EC:=.rg [m 54 12,o 55 (.bin .add) [t 54, i 1],m 12 55] false
@[simp]def e155_24:=rgF x155_24 rfl
def x155_25:EC:=.bk 3 x155_24
@[simp]def e155_25:=bkF x155_25 rfl
def x155_26:EC:=.bk 2 (.lp (seqs [(seqs [x155_22,x155_23]),x155_25]))
@[simp]def e155_26:=bkF x155_26 rfl
def x155_27:EC:=.rg [m 56 12,m 11 56] false
@[simp]def e155_27:=rgF x155_27 rfl
def x155_28:EC:=.rg [m 57 12,m 58 0,o 59 .lenS [t 58],o 60 (.bin .lss) [t 57, t 59]] false
@[simp]def e155_28:=rgF x155_28 rfl
def x155_29:EC:=.cd (t 60) .skip (.ex 4)
@[simp]def e155_29:=cdF x155_29 rfl
def x155_30:EC:=.rg [m 61 0,m 62 12,o 63 .ixS [t 61, t 62],o 64 (.iaA 256 1) [c (laidTp 1), t 63],o 65 (.load 1 false) [t 64],o 66 (.bin .eql) [t 65, c (.t (.int .u8 0))]] false
@[simp]def e155_30:=rgF x155_30 rfl
def x155_31:EC:=.rg [m 67 12,o 68 (.bin .add) [t 67, i 1],m 12 68] false
@[simp]def e155_31:=rgF x155_31 rfl
def x155_32:EC:=.cd (t 66) (seqs [x155_31,(.ex 5)]) .skip
@[simp]def e155_32:=cdF x155_32 rfl
def x155_33:EC:=.rg [m 69 9,m 70 10,m 71 0,m 72 11,m 73 12,o 74 (.slS true true) [t 71, t 72, t 73],o 75 (.iaS 1) [t 69, t 70],u (.store 1) [t 75, t 74]] false
@[simp]def e155_33:=rgF x155_33 rfl
def x155_34:EC:=.rg [m 76 10,o 77 (.bin .add) [t 76, i 1],m 10 77] false
@[simp]def e155_34:=rgF x155_34 rfl
def x155_35:EC:=.rg [m 78 12,o 79 (.bin .add) [t 78, i 1],m 12 79] false
@[simp]def e155_35:=rgF x155_35 rfl
def x155_36:EC:=.rg [m 80 12,m 81 0,o 82 .lenS [t 81],o 83 (.bin .lss) [t 80, t 82],m 84 83,y 85 84 .mv [t 0],y 86 84 .mv [t 12],y 87 84 .ixS [t 85, t 86],y 88 84 (.iaA 256 1) [c (laidTp 1), t 87],y 89 84 (.load 1 false) [t 88],y 90 84 (.bin .neq) [t 89, c (.t (.int .u8 0))],o 91 .pick [t 84, t 90, b false]] false
@[simp]def e155_36:=rgF x155_36 rfl
def x155_37:EC:=.cd (t 91) .skip (.ex 6)
@[simp]def e155_37:=cdF x155_37 rfl
def x155_38:EC:=.rg [m 92 12,o 93 (.bin .add) [t 92, i 1],m 12 93] false
@[simp]def e155_38:=rgF x155_38 rfl
def x155_39:EC:=.bk 7 x155_38
@[simp]def e155_39:=bkF x155_39 rfl
def x155_40:EC:=.bk 6 (.lp (seqs [(seqs [x155_36,x155_37]),x155_39]))
@[simp]def e155_40:=bkF x155_40 rfl
def x155_41:EC:=.rg [m 94 12,m 11 94] false
@[simp]def e155_41:=rgF x155_41 rfl
def x155_42:EC:=.bk 5 (seqs [(seqs [x155_30,x155_32]),x155_33,x155_34,x155_35,x155_40,x155_41])
@[simp]def e155_42:=bkF x155_42 rfl
def x155_43:EC:=.bk 4 (.lp (seqs [(seqs [x155_28,x155_29]),x155_42]))
@[simp]def e155_43:=bkF x155_43 rfl
def x155_44:EC:=.rg [m 95 11,m 96 0,o 97 .lenS [t 96],o 98 (.bin .lss) [t 95, t 97]] false
@[simp]def e155_44:=rgF x155_44 rfl
def x155_45:EC:=.rg [m 99 9,m 100 10,m 101 0,m 102 11,o 103 (.slS true false) [t 101, t 102],o 104 (.iaS 1) [t 99, t 100],u (.store 1) [t 104, t 103]] false
@[simp]def e155_45:=rgF x155_45 rfl
def x155_46:EC:=.cd (t 98) x155_45 .skip
@[simp]def e155_46:=cdF x155_46 rfl
def x155_47:EC:=.rg [m 105 9,m 2 105] false
@[simp]def e155_47:=rgF x155_47 rfl
def c_strings_Fields_155 : EC := (seqs [x155_0,x155_1,x155_2,x155_3,(seqs [x155_4,x155_14]),(seqs [x155_15,x155_17]),x155_18,x155_19,x155_20,x155_21,x155_26,x155_27,x155_43,(seqs [x155_44,x155_46]),x155_47,.rt])
theorem k_155 : ecF Tryd.prog 155 = some (106, c_strings_Fields_155, [.tm 2]) := by kernel_rfl

/-- strings.IndexByte -/
def x156_0:EC:=.rg [o 4 .mv [i 0]] false
@[simp]def e156_0:=rgF x156_0 rfl
def x156_1:EC:=.rg [m 5 0,m 6 1,o 7 (.call 165) [t 5, t 6],m 4 7] false
@[simp]def e156_1:=rgF x156_1 rfl
def c_strings_IndexByte_156 : EC := (seqs [x156_0,x156_1,.rt])
theorem k_156 : ecF Tryd.prog 156 = some (8, c_strings_IndexByte_156, [.tm 4]) := by kernel_rfl

/-- internal/strconv.bool2[int] -/
def x158_0:EC:=.rg [o 2 .mv [i 0]] false
@[simp]def e158_0:=rgF x158_0 rfl
def x158_1:EC:=.rg [m 3 0] false
@[simp]def e158_1:=rgF x158_1 rfl
def x158_2:EC:=.rg [o 2 .mv [i 1]] false
@[simp]def e158_2:=rgF x158_2 rfl
def x158_3:EC:=.cd (t 3) (seqs [x158_2,.rt]) .skip
@[simp]def e158_3:=cdF x158_3 rfl
def x158_4:EC:=.rg [o 2 .mv [i 0]] false
@[simp]def e158_4:=rgF x158_4 rfl
def c_strconv_bool2_int__158 : EC := (seqs [x158_0,(seqs [x158_1,x158_3]),x158_4,.rt])
theorem k_158 : ecF Tryd.prog 158 = some (4, c_strconv_bool2_int__158, [.tm 2]) := by kernel_rfl

/-- internal/strconv.isPowerOfTwo -/
def x159_0:EC:=.rg [o 2 .mv [b false]] false
@[simp]def e159_0:=rgF x159_0 rfl
def x159_1:EC:=.rg [m 3 0,m 4 0,o 5 (.bin .sub) [t 4, i 1],o 6 (.bin .and) [t 3, t 5],o 7 (.bin .eql) [t 6, i 0],m 2 7] false
@[simp]def e159_1:=rgF x159_1 rfl
def c_strconv_isPowerOfTwo_159 : EC := (seqs [x159_0,x159_1,.rt])
theorem k_159 : ecF Tryd.prog 159 = some (8, c_strconv_isPowerOfTwo_159, [.tm 2]) := by kernel_rfl

/-- math/bits.TrailingZeros -/
def x160_0:EC:=.rg [o 2 .mv [i 0]] false
@[simp]def e160_0:=rgF x160_0 rfl
def x160_1:EC:=.rg [m 3 0,o 4 (.cvI .u32) [t 3],o 5 (.call 166) [t 4],m 2 5] false
@[simp]def e160_1:=rgF x160_1 rfl
def x160_2:EC:=.cd (b false) (seqs [x160_1,.rt]) .skip
@[simp]def e160_2:=cdF x160_2 rfl
def x160_3:EC:=.rg [m 6 0,o 7 (.call 167) [t 6],m 2 7] false
@[simp]def e160_3:=rgF x160_3 rfl
def c_bits_TrailingZeros_160 : EC := (seqs [x160_0,x160_2,x160_3,.rt])
theorem k_160 : ecF Tryd.prog 160 = some (8, c_bits_TrailingZeros_160, [.tm 2]) := by kernel_rfl

/-- slices.order2Ordered[int] -/
def x161_0:EC:=.rg [o 8 .mv [i 0],o 9 .mv [i 0]] false
@[simp]def e161_0:=rgF x161_0 rfl
def x161_1:EC:=.rg [m 10 0,m 11 2,o 12 (.iaS 1) [t 10, t 11],o 13 (.load 1 false) [t 12],m 14 0,m 15 1,o 16 (.iaS 1) [t 14, t 15],o 17 (.load 1 false) [t 16]] true
@[simp]def e161_1:=rgF x161_1 rfl
def x161_2:EC:=.rg [o 18 (.call 129) [t 13, t 17]] false
@[simp]def e161_2:=rgF x161_2 rfl
def x161_3:EC:=.rg [m 19 3,o 20 .nilc [t 19],o 21 (.load 1 false) [t 20],o 22 (.bin .add) [t 21, i 1],o 23 .nilc [t 19],u (.store 1) [t 23, t 22]] false
@[simp]def e161_3:=rgF x161_3 rfl
def x161_4:EC:=.rg [m 24 2,m 25 1,m 8 24,m 9 25] false
@[simp]def e161_4:=rgF x161_4 rfl
def x161_5:EC:=.cd (t 18) (seqs [x161_3,x161_4,.rt]) .skip
@[simp]def e161_5:=cdF x161_5 rfl
def x161_6:EC:=.rg [m 26 1,m 27 2,m 8 26,m 9 27] false
@[simp]def e161_6:=rgF x161_6 rfl
def c_slices_order2Ordered_int__161 : EC := (seqs [x161_0,(seqs [(seqs [x161_1,x161_2]),x161_5]),x161_6,.rt])
theorem k_161 : ecF Tryd.prog 161 = some (28, c_slices_order2Ordered_int__161, [.tm 8, .tm 9]) := by kernel_rfl
end Go.Proofs.YtkapabohpfkcoaaDoor
