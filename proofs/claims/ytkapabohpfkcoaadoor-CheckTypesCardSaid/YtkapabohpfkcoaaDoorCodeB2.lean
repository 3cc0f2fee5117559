/- The code of the functions of this seat, as the engine reads it; printed by program out of the translation, checked by the kernel. -/
import Derived.Test.YtkapabohpfkcoaaDoorEe
import Derived.Test.YtkapabohpfkcoaaDoorProg
set_option linter.unusedSimpArgs false
set_option linter.unusedVariables false
set_option linter.defProp false
namespace Go.Proofs.YtkapabohpfkcoaaDoor
open Go.Proofs E E.Z
variable {P : Program} {nb nt : Nat} {Q : Ex → Fr → St → Prop} {a : Fr} {S : St}
/-- slices.Index[[]string,string] -/
def x162_0:EC:=.rg [o 4 .mv [i 0]] false
@[simp]def e162_0:=rgF x162_0 rfl
def x162_1:EC:=.rg [m 6 0,o 7 .lenL [t 6],o 8 .mv [i 0]] false
@[simp]def e162_1:=rgF x162_1 rfl
def x162_2:EC:=.rg [o 9 (.bin .lss) [t 8, t 7]] false
@[simp]def e162_2:=rgF x162_2 rfl
def x162_3:EC:=.cd (t 9) .skip (.ex 0)
@[simp]def e162_3:=cdF x162_3 rfl
def x162_4:EC:=.rg [m 10 8,m 5 10] false
@[simp]def e162_4:=rgF x162_4 rfl
def x162_5:EC:=.rg [m 11 1,m 12 0,m 13 5,o 14 (.iaS 1) [t 12, t 13],o 15 (.load 1 false) [t 14],o 16 (.bin .eql) [t 11, t 15]] false
@[simp]def e162_5:=rgF x162_5 rfl
def x162_6:EC:=.rg [m 17 5,m 4 17] false
@[simp]def e162_6:=rgF x162_6 rfl
def x162_7:EC:=.cd (t 16) (seqs [x162_6,.rt]) .skip
@[simp]def e162_7:=cdF x162_7 rfl
def x162_8:EC:=.bk 1 (seqs [x162_4,x162_5,x162_7])
@[simp]def e162_8:=bkF x162_8 rfl
def x162_9:EC:=.rg [o 18 (.bin .add) [t 8, i 1],m 8 18] false
@[simp]def e162_9:=rgF x162_9 rfl
def x162_10:EC:=.bk 0 (.lp (seqs [x162_2,x162_3,x162_8,x162_9]))
@[simp]def e162_10:=bkF x162_10 rfl
def x162_11:EC:=.rg [o 4 .mv [i (-1)]] false
@[simp]def e162_11:=rgF x162_11 rfl
def c_slices_Index___string_string__162 : EC := (seqs [x162_0,(seqs [x162_1,x162_10]),x162_11,.rt])
theorem k_162 : ecF Tryd.prog 162 = some (19, c_slices_Index___string_string__162, [.tm 4]) := by kernel_rfl

/-- strings.FieldsFunc -/
def x163_0:EC:=.rg [o 4 .mv [c (.snil)]] false
@[simp]def e163_0:=rgF x163_0 rfl
def x163_1:EC:=.rg [o 12 (.mks 214 2 16 [.t (.int .i64 0), .t (.int .i64 0)]) [i 0, i 32],m 5 12] false
@[simp]def e163_1:=rgF x163_1 rfl
def x163_2:EC:=.rg [o 6 .mv [i (-1)]] false
@[simp]def e163_2:=rgF x163_2 rfl
def x163_3:EC:=.rg [m 13 0,o 14 .rngS [t 13]] false
@[simp]def e163_3:=rgF x163_3 rfl
def x163_4:EC:=.rg [o 15 .nxtS [t 14],o 16 (.ext 0) [t 15]] false
@[simp]def e163_4:=rgF x163_4 rfl
def x163_5:EC:=.cd (t 16) .skip (.ex 0)
@[simp]def e163_5:=cdF x163_5 rfl
def x163_6:EC:=.rg [o 17 (.ext 1) [t 15],o 18 (.ext 2) [t 15],m 7 17,m 8 18] false
@[simp]def e163_6:=rgF x163_6 rfl
def x163_7:EC:=.rg [m 19 1,m 20 8,o 21 .callv [t 19, t 20]] false
@[simp]def e163_7:=rgF x163_7 rfl
def x163_8:EC:=.rg [m 22 6,o 23 (.bin .geq) [t 22, i 0]] false
@[simp]def e163_8:=rgF x163_8 rfl
def x163_9:EC:=.rg [m 24 5,m 25 6,m 26 7,o 27 (.build [.t (.int .i64 0), .t (.int .i64 0)] [(0, 1), (1, 1)]) [t 25, t 26],o 28 (.bsl 2) [t 27],o 29 (.app 214 2 16) [t 24, t 28],m 5 29] false
@[simp]def e163_9:=rgF x163_9 rfl
def x163_10:EC:=.rg [m 30 6,o 31 (.un .xor) [t 30],m 6 31] false
@[simp]def e163_10:=rgF x163_10 rfl
def x163_11:EC:=.cd (t 23) (seqs [x163_9,x163_10]) .skip
@[simp]def e163_11:=cdF x163_11 rfl
def x163_12:EC:=.rg [m 32 6,o 33 (.bin .lss) [t 32, i 0]] false
@[simp]def e163_12:=rgF x163_12 rfl
def x163_13:EC:=.rg [m 34 7,m 6 34] false
@[simp]def e163_13:=rgF x163_13 rfl
def x163_14:EC:=.cd (t 33) x163_13 .skip
@[simp]def e163_14:=cdF x163_14 rfl
def x163_15:EC:=.cd (t 21) (seqs [x163_8,x163_11]) (seqs [x163_12,x163_14])
@[simp]def e163_15:=cdF x163_15 rfl
def x163_16:EC:=.bk 1 (seqs [x163_6,x163_7,x163_15])
@[simp]def e163_16:=bkF x163_16 rfl
def x163_17:EC:=.bk 0 (.lp (seqs [x163_4,x163_5,x163_16]))
@[simp]def e163_17:=bkF x163_17 rfl
def x163_18:EC:=.rg [m 35 6,o 36 (.bin .geq) [t 35, i 0]] false
@[simp]def e163_18:=rgF x163_18 rfl
def x163_19:EC:=.rg [m 37 5,m 38 6,m 39 0,o 40 .lenS [t 39],o 41 (.build [.t (.int .i64 0), .t (.int .i64 0)] [(0, 1), (1, 1)]) [t 38, t 40],o 42 (.bsl 2) [t 41],o 43 (.app 214 2 16) [t 37, t 42],m 5 43] false
@[simp]def e163_19:=rgF x163_19 rfl
def x163_20:EC:=.cd (t 36) x163_19 .skip
@[simp]def e163_20:=cdF x163_20 rfl
def x163_21:EC:=.rg [m 44 5,o 45 .lenL [t 44],o 46 (.mks 9 1 16 [.t (.str [])]) [t 45, t 45],m 9 46] false
@[simp]def e163_21:=rgF x163_21 rfl
def x163_22:EC:=.rg [m 47 5,o 48 .lenL [t 47],o 49 .mv [i 0]] false
@[simp]def e163_22:=rgF x163_22 rfl
def x163_23:EC:=.rg [o 50 (.bin .lss) [t 49, t 48]] false
@[simp]def e163_23:=rgF x163_23 rfl
def x163_24:EC:=.cd (t 50) .skip (.ex 2)
@[simp]def e163_24:=cdF x163_24 rfl
def x163_25:EC:=.rg [m 51 49,o 52 (.iaS 2) [t 47, t 49],o 53 (.load 2 true) [t 52],o 11 (.alloc [.t (.int .i64 0), .t (.int .i64 0)]) [],m 10 51,u (.store 2) [t 11, t 53]] false
@[simp]def e163_25:=rgF x163_25 rfl
def x163_26:EC:=.rg [m 54 9,m 55 10,m 56 0,o 57 (.faddr 0) [t 11],o 58 (.load 1 false) [t 57],o 59 (.faddr 1) [t 11],o 60 (.load 1 false) [t 59],o 61 (.slS true true) [t 56, t 58, t 60],o 62 (.iaS 1) [t 54, t 55],u (.store 1) [t 62, t 61]] false
@[simp]def e163_26:=rgF x163_26 rfl
def x163_27:EC:=.bk 3 (seqs [x163_25,x163_26])
@[simp]def e163_27:=bkF x163_27 rfl
def x163_28:EC:=.rg [o 63 (.bin .add) [t 49, i 1],m 49 63] false
@[simp]def e163_28:=rgF x163_28 rfl
def x163_29:EC:=.bk 2 (.lp (seqs [x163_23,x163_24,x163_27,x163_28]))
@[simp]def e163_29:=bkF x163_29 rfl
def x163_30:EC:=.rg [m 64 9,m 4 64] false
@[simp]def e163_30:=rgF x163_30 rfl
def c_strings_FieldsFunc_163 : EC := (seqs [x163_0,x163_1,x163_2,(seqs [x163_3,x163_17]),(seqs [x163_18,x163_20]),x163_21,(seqs [x163_22,x163_29]),x163_30,.rt])
theorem k_163 : ecF Tryd.prog 163 = some (65, c_strings_FieldsFunc_163, [.tm 4]) := by kernel_rfl

/-- strings.FieldsFunc, with slices that grow in boxes -/
def xb163_0:EC:=.rg [o 4 .mv [c (.snil)]] false
@[simp]def eb163_0:=rgF xb163_0 rfl
def xb163_1:EC:=.rg [o 12 (.mks 214 2 16 [.t (.int .i64 0), .t (.int .i64 0)]) [i 0, i 32],m 5 12] false
@[simp]def eb163_1:=rgF xb163_1 rfl
def xb163_2:EC:=.rg [o 6 .mv [i (-1)]] false
@[simp]def eb163_2:=rgF xb163_2 rfl
def xb163_3:EC:=.rg [m 13 0,o 14 .rngS [t 13]] false
@[simp]def eb163_3:=rgF xb163_3 rfl
def xb163_4:EC:=.rg [o 15 .nxtS [t 14],o 16 (.ext 0) [t 15]] false
@[simp]def eb163_4:=rgF xb163_4 rfl
def xb163_5:EC:=.cd (t 16) .skip (.ex 0)
@[simp]def eb163_5:=cdF xb163_5 rfl
def xb163_6:EC:=.rg [o 17 (.ext 1) [t 15],o 18 (.ext 2) [t 15],m 7 17,m 8 18] false
@[simp]def eb163_6:=rgF xb163_6 rfl
def xb163_7:EC:=.rg [m 19 1,m 20 8,o 21 .callv [t 19, t 20]] false
@[simp]def eb163_7:=rgF xb163_7 rfl
def xb163_8:EC:=.rg [m 22 6,o 23 (.bin .geq) [t 22, i 0]] false
@[simp]def eb163_8:=rgF xb163_8 rfl
def xb163_9:EC:=.rg [m 24 5,m 25 6,m 26 7,o 27 (.build [.t (.int .i64 0), .t (.int .i64 0)] [(0, 1), (1, 1)]) [t 25, t 26],o 28 (.bsl 2) [t 27],o 29 (.appB 214 2 16) [t 24, t 28],m 5 29] false
@[simp]def eb163_9:=rgF xb163_9 rfl
def xb163_10:EC:=.rg [m 30 6,o 31 (.un .xor) [t 30],m 6 31] false
@[simp]def eb163_10:=rgF xb163_10 rfl
def xb163_11:EC:=.cd (t 23) (seqs [xb163_9,xb163_10]) .skip
@[simp]def eb163_11:=cdF xb163_11 rfl
def xb163_12:EC:=.rg [m 32 6,o 33 (.bin .lss) [t 32, i 0]] false
@[simp]def eb163_12:=rgF xb163_12 rfl
def xb163_13:EC:=.rg [m 34 7,m 6 34] false
@[simp]def eb163_13:=rgF xb163_13 rfl
def xb163_14:EC:=.cd (t 33) xb163_13 .skip
@[simp]def eb163_14:=cdF xb163_14 rfl
def xb163_15:EC:=.cd (t 21) (seqs [xb163_8,xb163_11]) (seqs [xb163_12,xb163_14])
@[simp]def eb163_15:=cdF xb163_15 rfl
def xb163_16:EC:=.bk 1 (seqs [xb163_6,xb163_7,xb163_15])
@[simp]def eb163_16:=bkF xb163_16 rfl
def xb163_17:EC:=.bk 0 (.lp (seqs [xb163_4,xb163_5,xb163_16]))
@[simp]def eb163_17:=bkF xb163_17 rfl
def xb163_18:EC:=.rg [m 35 6,o 36 (.bin .geq) [t 35, i 0]] false
@[simp]def eb163_18:=rgF xb163_18 rfl
def xb163_19:EC:=.rg [m 37 5,m 38 6,m 39 0,o 40 .lenS [t 39],o 41 (.build [.t (.int .i64 0), .t (.int .i64 0)] [(0, 1), (1, 1)]) [t 38, t 40],o 42 (.bsl 2) [t 41],o 43 (.appB 214 2 16) [t 37, t 42],m 5 43] false
@[simp]def eb163_19:=rgF xb163_19 rfl
def xb163_20:EC:=.cd (t 36) xb163_19 .skip
@[simp]def eb163_20:=cdF xb163_20 rfl
def xb163_21:EC:=.rg [m 44 5,o 45 .lenL [t 44],o 46 (.mks 9 1 16 [.t (.str [])]) [t 45, t 45],m 9 46] false
@[simp]def eb163_21:=rgF xb163_21 rfl
def xb163_22:EC:=.rg [m 47 5,o 48 .lenL [t 47],o 49 .mv [i 0]] false
@[simp]def eb163_22:=rgF xb163_22 rfl
def xb163_23:EC:=.rg [o 50 (.bin .lss) [t 49, t 48]] false
@[simp]def eb163_23:=rgF xb163_23 rfl
def xb163_24:EC:=.cd (t 50) .skip (.ex 2)
@[simp]def eb163_24:=cdF xb163_24 rfl
def xb163_25:EC:=.rg [m 51 49,o 52 (.iaS 2) [t 47, t 49],o 53 (.load 2 true) [t 52],o 11 (.alloc [.t (.int .i64 0), .t (.int .i64 0)]) [],m 10 51,u (.store 2) [t 11, t 53]] false
@[simp]def eb163_25:=rgF xb163_25 rfl
def xb163_26:EC:=.rg [m 54 9,m 55 10,m 56 0,o 57 (.faddr 0) [t 11],o 58 (.load 1 false) [t 57],o 59 (.faddr 1) [t 11],o 60 (.load 1 false) [t 59],o 61 (.slS true true) [t 56, t 58, t 60],o 62 (.iaS 1) [t 54, t 55],u (.store 1) [t 62, t 61]] false
@[simp]def eb163_26:=rgF xb163_26 rfl
def xb163_27:EC:=.bk 3 (seqs [xb163_25,xb163_26])
@[simp]def eb163_27:=bkF xb163_27 rfl
def xb163_28:EC:=.rg [o 63 (.bin .add) [t 49, i 1],m 49 63] false
@[simp]def eb163_28:=rgF xb163_28 rfl
def xb163_29:EC:=.bk 2 (.lp (seqs [xb163_23,xb163_24,xb163_27,xb163_28]))
@[simp]def eb163_29:=bkF xb163_29 rfl
def xb163_30:EC:=.rg [m 64 9,m 4 64] false
@[simp]def eb163_30:=rgF xb163_30 rfl
def b_strings_FieldsFunc_163 : EC := (seqs [xb163_0,xb163_1,xb163_2,(seqs [xb163_3,xb163_17]),(seqs [xb163_18,xb163_20]),xb163_21,(seqs [xb163_22,xb163_29]),xb163_30,.rt])
theorem kb_163 : ecB Tryd.prog 163 = some (65, b_strings_FieldsFunc_163, [.tm 4]) := by kernel_rfl

/-- internal/stringslite.IndexByte -/
def x165_0:EC:=.rg [o 4 .mv [i 0]] false
@[simp]def e165_0:=rgF x165_0 rfl
def x165_1:EC:=.rg [m 5 0,m 6 1,o 7 (.call 169) [t 5, t 6],m 4 7] false
@[simp]def e165_1:=rgF x165_1 rfl
def c_stringslite_IndexByte_165 : EC := (seqs [x165_0,x165_1,.rt])
theorem k_165 : ecF Tryd.prog 165 = some (8, c_stringslite_IndexByte_165, [.tm 4]) := by kernel_rfl

/-- unicode.isExcludingLatin -/
def x168_0:EC:=.rg [o 4 .mv [b false]] false
@[simp]def e168_0:=rgF x168_0 rfl
def x168_1:EC:=.rg [m 8 0,o 9 .nilc [t 8],o 10 (.faddr 0) [t 9],o 11 (.load 1 false) [t 10],m 5 11] false
@[simp]def e168_1:=rgF x168_1 rfl
def x168_2:EC:=.rg [m 12 0,o 13 .nilc [t 12],o 14 (.faddr 2) [t 13],o 15 (.load 1 false) [t 14],m 6 15] false
@[simp]def e168_2:=rgF x168_2 rfl
def x168_3:EC:=.rg [m 16 5,o 17 .lenL [t 16],m 18 6,o 19 (.bin .gtr) [t 17, t 18],m 20 19,y 21 20 .mv [t 1],y 22 20 (.cvI .u32) [t 21],y 23 20 .mv [t 5],y 24 20 .mv [t 5],y 25 20 .lenL [t 24],y 26 20 (.bin .sub) [t 25, i 1],y 27 20 (.iaS 3) [t 23, t 26],y 28 20 (.faddr 1) [t 27],y 29 20 (.load 1 false) [t 28],y 30 20 (.cvI .u32) [t 29],y 31 20 (.bin .leq) [t 22, t 30],o 32 .pick [t 20, t 31, b false]] false
@[simp]def e168_3:=rgF x168_3 rfl
def x168_4:EC:=.rg [m 33 5,m 34 6,o 35 (.slL 3 true false false) [t 33, t 34],m 36 1,o 37 (.cvI .u16) [t 36],o 38 (.call 170) [t 35, t 37],m 4 38] false
@[simp]def e168_4:=rgF x168_4 rfl
def x168_5:EC:=.cd (t 32) (seqs [x168_4,.rt]) .skip
@[simp]def e168_5:=cdF x168_5 rfl
def x168_6:EC:=.rg [m 39 0,o 40 .nilc [t 39],o 41 (.faddr 1) [t 40],o 42 (.load 1 false) [t 41],m 7 42] false
@[simp]def e168_6:=rgF x168_6 rfl
def x168_7:EC:=.rg [m 43 7,o 44 .lenL [t 43],o 45 (.bin .gtr) [t 44, i 0],m 46 45,y 47 46 .mv [t 1],y 48 46 .mv [t 7],y 49 46 (.iaS 3) [t 48, i 0],y 50 46 (.faddr 0) [t 49],y 51 46 (.load 1 false) [t 50],y 52 46 (.cvI .i32) [t 51],y 53 46 (.bin .geq) [t 47, t 52],o 54 .pick [t 46, t 53, b false]] false
@[simp]def e168_7:=rgF x168_7 rfl
def x168_8:EC:=.rg [m 55 7,m 56 1,o 57 (.cvI .u32) [t 56],o 58 (.call 171) [t 55, t 57],m 4 58] false
@[simp]def e168_8:=rgF x168_8 rfl
def x168_9:EC:=.cd (t 54) (seqs [x168_8,.rt]) .skip
@[simp]def e168_9:=cdF x168_9 rfl
def x168_10:EC:=.rg [o 4 .mv [b false]] false
@[simp]def e168_10:=rgF x168_10 rfl
def c_unicode_isExcludingLatin_168 : EC := (seqs [x168_0,x168_1,(seqs [x168_2,x168_3,x168_5]),x168_6,(seqs [x168_7,x168_9]),x168_10,.rt])
theorem k_168 : ecF Tryd.prog 168 = some (59, c_unicode_isExcludingLatin_168, [.tm 4]) := by kernel_rfl
end Go.Proofs.YtkapabohpfkcoaaDoor
