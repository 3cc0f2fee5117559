/- The code of the functions of this seat, as the engine reads it; printed by program out of the translation, checked by the kernel. -/
import Derived.Test.YthfnaaeddlnckaaEd
import Derived.Test.YthfnaaeddlnckaaProg
set_option linter.unusedSimpArgs false
set_option linter.unusedVariables false
namespace Go.Proofs.Ythfnaaeddlnckaa
open Go.Proofs E E.Z
variable {P : Program} {nb nt : Nat} {Q : Ex → Fr → St → Prop} {a : Fr} {S : St}
/-- tallystone/group.sampleEntity, with slices that grow in boxes -/
@[simp] def b52_0l : List EO := [o 6 (.alloc [.t (.str []), .t (.str []), .snil, .snil, .t (.bool false)]) []]
def b52_0 : EC := .rg b52_0l false
@[simp] theorem b52_0e : Rg b52_0 b52_0l false := rgE _ _
@[simp] def b52_1l : List EO := [m 13 0,
 m 14 1,
 m 15 2,
 o 16 (.build [.t (.str []), .t (.str []), .snil, .snil, .t (.bool false)] [(0, 1), (1, 1), (4, 1)]) [t 13, t 14, t 15],
 o 7 (.alloc [.t (.str []), .t (.str []), .snil, .snil, .t (.bool false)]) [],
 u (.store 5) [t 7, t 16]]
def b52_1 : EC := .rg b52_1l false
@[simp] theorem b52_1e : Rg b52_1 b52_1l false := rgE _ _
@[simp] def b52_2l : List EO := [o 17 (.bsl 1) [i 1, i 1, i 1, i 1, i 1, i 2, i 2, i 3, i 3, i 4, i 4, i 4, i 5, i 5],
 m 8 17]
def b52_2 : EC := .rg b52_2l false
@[simp] theorem b52_2e : Rg b52_2 b52_2l false := rgE _ _
@[simp] def b52_3l : List EO := [o 18 (.bsl 1) [i 1010, i 1100, i 1200, i 1300, i 1500, i 2000, i 2100, i 3000, i 3300, i 4000, i 4100, i 4700, i 5000, i 5100],
 m 9 18]
def b52_3 : EC := .rg b52_3l false
@[simp] theorem b52_3e : Rg b52_3 b52_3l false := rgE _ _
@[simp] def b52_4l : List EO := [m 19 8,
 o 20 .lenL [t 19],
 o 21 .mv [i 0]]
def b52_4 : EC := .rg b52_4l false
@[simp] theorem b52_4e : Rg b52_4 b52_4l false := rgE _ _
@[simp] def b52_5l : List EO := [o 22 (.bin .lss) [t 21, t 20]]
def b52_5 : EC := .rg b52_5l false
@[simp] theorem b52_5e : Rg b52_5 b52_5l false := rgE _ _
def b52_6 : EC := .cd (t 22) .skip (.ex 0)
@[simp] theorem b52_6e : Cd b52_6 (t 22) .skip (.ex 0) := cdE _ _ _
@[simp] def b52_7l : List EO := [m 23 21,
 o 24 (.iaS 1) [t 19, t 21],
 o 25 (.load 1 false) [t 24],
 m 10 23,
 m 11 25]
def b52_7 : EC := .rg b52_7l false
@[simp] theorem b52_7e : Rg b52_7 b52_7l false := rgE _ _
@[simp] def b52_8l : List EO := [m 26 10,
 o 27 (.bin .add) [t 26, i 1],
 o 28 (.bin .mul) [i 10, t 27],
 m 12 28]
def b52_8 : EC := .rg b52_8l false
@[simp] theorem b52_8e : Rg b52_8 b52_8l false := rgE _ _
@[simp] def b52_9l : List EO := [o 29 (.faddr 2) [t 7],
 o 30 (.load 1 false) [t 29],
 m 31 12,
 m 32 11,
 o 33 (.build [.t (.int .i64 0), .t (.int .i64 0), .t (.int .i64 0), .t (.int .i64 0)] [(0, 1), (1, 1)]) [t 31, t 32],
 o 34 (.bsl 4) [t 33],
 o 35 (.appB 78 4 32) [t 30, t 34],
 o 36 (.faddr 2) [t 7],
 u (.store 1) [t 36, t 35]]
def b52_9 : EC := .rg b52_9l false
@[simp] theorem b52_9e : Rg b52_9 b52_9l false := rgE _ _
@[simp] def b52_10l : List EO := [o 37 (.faddr 3) [t 7],
 o 38 (.load 1 false) [t 37],
 m 39 12,
 m 40 9,
 m 41 10,
 o 42 (.iaS 1) [t 40, t 41],
 o 43 (.load 1 false) [t 42],
 o 44 (.build [.t (.int .i64 0), .t (.int .i64 0), .t (.int .i64 0)] [(0, 1), (1, 1), (2, 1)]) [t 39, t 43, i (-25567)],
 o 45 (.bsl 3) [t 44],
 o 46 (.appB 124 3 24) [t 38, t 45],
 o 47 (.faddr 3) [t 7],
 u (.store 1) [t 47, t 46]]
def b52_10 : EC := .rg b52_10l true
@[simp] theorem b52_10e : Rg b52_10 b52_10l true := rgE _ _
def b52_11 : EC := .sq b52_9 b52_10
@[simp] theorem b52_11e : Sq b52_11 b52_9 b52_10 := sqE _ _
def b52_12 : EC := .sq b52_8 b52_11
@[simp] theorem b52_12e : Sq b52_12 b52_8 b52_11 := sqE _ _
def b52_13 : EC := .sq b52_7 b52_12
@[simp] theorem b52_13e : Sq b52_13 b52_7 b52_12 := sqE _ _
def b52_14 : EC := .bk 1 b52_13
@[simp] theorem b52_14e : Bk b52_14 1 b52_13 := bkE _ _
@[simp] def b52_15l : List EO := [o 48 (.bin .add) [t 21, i 1],
 m 21 48]
def b52_15 : EC := .rg b52_15l false
@[simp] theorem b52_15e : Rg b52_15 b52_15l false := rgE _ _
def b52_16 : EC := .sq b52_14 b52_15
@[simp] theorem b52_16e : Sq b52_16 b52_14 b52_15 := sqE _ _
def b52_17 : EC := .sq b52_6 b52_16
@[simp] theorem b52_17e : Sq b52_17 b52_6 b52_16 := sqE _ _
def b52_18 : EC := .sq b52_5 b52_17
@[simp] theorem b52_18e : Sq b52_18 b52_5 b52_17 := sqE _ _
def b52_19 : EC := .bk 0 (.lp b52_18)
@[simp] theorem b52_19e : Bk b52_19 0 (.lp b52_18) := bkE _ _
def b52_20 : EC := .sq b52_4 b52_19
@[simp] theorem b52_20e : Sq b52_20 b52_4 b52_19 := sqE _ _
@[simp] def b52_21l : List EO := [o 49 (.load 5 true) [t 7],
 u (.store 5) [t 6, t 49]]
def b52_21 : EC := .rg b52_21l false
@[simp] theorem b52_21e : Rg b52_21 b52_21l false := rgE _ _
def b52_22 : EC := .sq b52_21 .rt
@[simp] theorem b52_22e : Sq b52_22 b52_21 .rt := sqE _ _
def b52_23 : EC := .sq b52_20 b52_22
@[simp] theorem b52_23e : Sq b52_23 b52_20 b52_22 := sqE _ _
def b52_24 : EC := .sq b52_3 b52_23
@[simp] theorem b52_24e : Sq b52_24 b52_3 b52_23 := sqE _ _
def b52_25 : EC := .sq b52_2 b52_24
@[simp] theorem b52_25e : Sq b52_25 b52_2 b52_24 := sqE _ _
def b52_26 : EC := .sq b52_1 b52_25
@[simp] theorem b52_26e : Sq b52_26 b52_1 b52_25 := sqE _ _
def b52_27 : EC := .sq b52_0 b52_26
@[simp] theorem b52_27e : Sq b52_27 b52_0 b52_26 := sqE _ _
def b_group_sampleEntity_52 : EC := b52_27
theorem kb_52 : ecB Try.prog 52 = some (50, b_group_sampleEntity_52, [.ce 6 5 true]) := by kernel_rfl

/-- tallystone/group.Valid -/
@[simp] def c53_0l : List EO := [o 1 .box [t 0],
 o 2 .mv [b false]]
def c53_0 : EC := .rg c53_0l false
@[simp] theorem c53_0e : Rg c53_0 c53_0l false := rgE _ _
@[simp] def c53_1l : List EO := [o 6 (.faddr 0) [t 1],
 o 7 (.load 1 false) [t 6],
 o 8 (.call 72) [t 7],
 o 9 (.un .not) [t 8],
 m 10 9,
 n 11 10 (.faddr 1) [t 1],
 n 12 10 (.load 3 true) [t 11],
 n 13 10 (.call 73) [t 12],
 n 14 10 (.un .not) [t 13],
 o 15 .pick [t 10, b true, t 14],
 m 16 15,
 n 17 16 (.load 21 true) [t 1],
 n 18 16 (.call 74) [t 17],
 n 19 16 (.un .not) [t 18],
 o 20 .pick [t 16, b true, t 19],
 m 21 20,
 n 22 21 (.faddr 20) [t 1],
 n 23 21 (.load 1 false) [t 22],
 n 24 21 .lenL [t 23],
 n 25 21 (.bin .lss) [t 24, i 1],
 o 26 .pick [t 21, b true, t 25],
 m 27 26,
 n 28 27 (.faddr 20) [t 1],
 n 29 27 (.load 1 false) [t 28],
 n 30 27 .lenL [t 29],
 n 31 27 (.bin .gtr) [t 30, i 12],
 o 32 .pick [t 27, b true, t 31],
 m 33 32,
 n 34 33 (.faddr 20) [t 1],
 n 35 33 (.load 1 false) [t 34],
 n 36 33 (.iaS 5) [t 35, i 0],
 n 37 33 (.faddr 4) [t 36],
 n 38 33 (.load 1 false) [t 37],
 o 39 .pick [t 33, b true, t 38]]
def c53_1 : EC := .rg c53_1l false
@[simp] theorem c53_1e : Rg c53_1 c53_1l false := rgE _ _
@[simp] def c53_2l : List EO := [o 2 .mv [b false]]
def c53_2 : EC := .rg c53_2l false
@[simp] theorem c53_2e : Rg c53_2 c53_2l false := rgE _ _
def c53_3 : EC := .sq c53_2 .rt
@[simp] theorem c53_3e : Sq c53_3 c53_2 .rt := sqE _ _
def c53_4 : EC := .cd (t 39) c53_3 .skip
@[simp] theorem c53_4e : Cd c53_4 (t 39) c53_3 .skip := cdE _ _ _
def c53_5 : EC := .sq c53_1 c53_4
@[simp] theorem c53_5e : Sq c53_5 c53_1 c53_4 := sqE _ _
@[simp] def c53_6l : List EO := [o 40 .mkmap [],
 m 3 40]
def c53_6 : EC := .rg c53_6l false
@[simp] theorem c53_6e : Rg c53_6 c53_6l false := rgE _ _
@[simp] def c53_7l : List EO := [o 41 (.faddr 20) [t 1],
 o 42 (.load 1 false) [t 41],
 o 43 .lenL [t 42],
 o 44 .mv [i 0]]
def c53_7 : EC := .rg c53_7l false
@[simp] theorem c53_7e : Rg c53_7 c53_7l false := rgE _ _
@[simp] def c53_8l : List EO := [o 45 (.bin .lss) [t 44, t 43]]
def c53_8 : EC := .rg c53_8l false
@[simp] theorem c53_8e : Rg c53_8 c53_8l false := rgE _ _
def c53_9 : EC := .cd (t 45) .skip (.ex 0)
@[simp] theorem c53_9e : Cd c53_9 (t 45) .skip (.ex 0) := cdE _ _ _
@[simp] def c53_10l : List EO := [o 46 (.iaS 5) [t 42, t 44],
 o 47 (.load 5 true) [t 46],
 o 5 (.alloc [.t (.str []), .t (.str []), .snil, .snil, .t (.bool false)]) [],
 u (.store 5) [t 5, t 47]]
def c53_10 : EC := .rg c53_10l false
@[simp] theorem c53_10e : Rg c53_10 c53_10l false := rgE _ _
@[simp] def c53_11l : List EO := [m 48 3,
 o 49 (.faddr 0) [t 5],
 o 50 (.load 1 false) [t 49],
 o 51 (.lkp false [2] false false [.t (.bool false)]) [t 48, t 50],
 m 52 51,
 n 53 52 (.load 21 true) [t 1],
 n 54 52 (.load 5 true) [t 5],
 n 55 52 (.call 75) [t 53, t 54],
 n 56 52 (.un .not) [t 55],
 o 57 .pick [t 52, b true, t 56]]
def c53_11 : EC := .rg c53_11l false
@[simp] theorem c53_11e : Rg c53_11 c53_11l false := rgE _ _
@[simp] def c53_12l : List EO := [o 2 .mv [b false]]
def c53_12 : EC := .rg c53_12l false
@[simp] theorem c53_12e : Rg c53_12 c53_12l false := rgE _ _
def c53_13 : EC := .sq c53_12 .rt
@[simp] theorem c53_13e : Sq c53_13 c53_12 .rt := sqE _ _
def c53_14 : EC := .cd (t 57) c53_13 .skip
@[simp] theorem c53_14e : Cd c53_14 (t 57) c53_13 .skip := cdE _ _ _
def c53_15 : EC := .sq c53_11 c53_14
@[simp] theorem c53_15e : Sq c53_15 c53_11 c53_14 := sqE _ _
@[simp] def c53_16l : List EO := [m 58 3,
 o 59 (.faddr 0) [t 5],
 o 60 (.load 1 false) [t 59],
 u (.mup false [2]) [t 58, t 60, b true]]
def c53_16 : EC := .rg c53_16l false
@[simp] theorem c53_16e : Rg c53_16 c53_16l false := rgE _ _
def c53_17 : EC := .sq c53_15 c53_16
@[simp] theorem c53_17e : Sq c53_17 c53_15 c53_16 := sqE _ _
def c53_18 : EC := .sq c53_10 c53_17
@[simp] theorem c53_18e : Sq c53_18 c53_10 c53_17 := sqE _ _
def c53_19 : EC := .bk 1 c53_18
@[simp] theorem c53_19e : Bk c53_19 1 c53_18 := bkE _ _
@[simp] def c53_20l : List EO := [o 61 (.bin .add) [t 44, i 1],
 m 44 61]
def c53_20 : EC := .rg c53_20l false
@[simp] theorem c53_20e : Rg c53_20 c53_20l false := rgE _ _
def c53_21 : EC := .sq c53_19 c53_20
@[simp] theorem c53_21e : Sq c53_21 c53_19 c53_20 := sqE _ _
def c53_22 : EC := .sq c53_9 c53_21
@[simp] theorem c53_22e : Sq c53_22 c53_9 c53_21 := sqE _ _
def c53_23 : EC := .sq c53_8 c53_22
@[simp] theorem c53_23e : Sq c53_23 c53_8 c53_22 := sqE _ _
def c53_24 : EC := .bk 0 (.lp c53_23)
@[simp] theorem c53_24e : Bk c53_24 0 (.lp c53_23) := bkE _ _
def c53_25 : EC := .sq c53_7 c53_24
@[simp] theorem c53_25e : Sq c53_25 c53_7 c53_24 := sqE _ _
@[simp] def c53_26l : List EO := [o 2 .mv [b true]]
def c53_26 : EC := .rg c53_26l false
@[simp] theorem c53_26e : Rg c53_26 c53_26l false := rgE _ _
def c53_27 : EC := .sq c53_26 .rt
@[simp] theorem c53_27e : Sq c53_27 c53_26 .rt := sqE _ _
def c53_28 : EC := .sq c53_25 c53_27
@[simp] theorem c53_28e : Sq c53_28 c53_25 c53_27 := sqE _ _
def c53_29 : EC := .sq c53_6 c53_28
@[simp] theorem c53_29e : Sq c53_29 c53_6 c53_28 := sqE _ _
def c53_30 : EC := .sq c53_5 c53_29
@[simp] theorem c53_30e : Sq c53_30 c53_5 c53_29 := sqE _ _
def c53_31 : EC := .sq c53_0 c53_30
@[simp] theorem c53_31e : Sq c53_31 c53_0 c53_30 := sqE _ _
def c_group_Valid_53 : EC := c53_31
theorem k_53 : ecF Try.prog 53 = some (62, c_group_Valid_53, [.tm 2]) := by kernel_rfl

/-- tallystone/calendar.First -/
@[simp] def c54_0l : List EO := [o 2 .box [t 0],
 o 4 .mv [i 0],
 o 5 .mv [i 0]]
def c54_0 : EC := .rg c54_0l false
@[simp] theorem c54_0e : Rg c54_0 c54_0l false := rgE _ _
@[simp] def c54_1l : List EO := [o 7 (.load 3 true) [t 2],
 m 8 1,
 o 9 (.call 76) [t 7, t 8],
 m 6 9]
def c54_1 : EC := .rg c54_1l false
@[simp] theorem c54_1e : Rg c54_1 c54_1l false := rgE _ _
@[simp] def c54_2l : List EO := [m 10 6,
 o 11 (.bin .neq) [t 10, i 0]]
def c54_2 : EC := .rg c54_2l false
@[simp] theorem c54_2e : Rg c54_2 c54_2l false := rgE _ _
@[simp] def c54_3l : List EO := [m 12 6,
 o 4 .mv [i 0],
 m 5 12]
def c54_3 : EC := .rg c54_3l false
@[simp] theorem c54_3e : Rg c54_3 c54_3l false := rgE _ _
def c54_4 : EC := .sq c54_3 .rt
@[simp] theorem c54_4e : Sq c54_4 c54_3 .rt := sqE _ _
def c54_5 : EC := .cd (t 11) c54_4 .skip
@[simp] theorem c54_5e : Cd c54_5 (t 11) c54_4 .skip := cdE _ _ _
def c54_6 : EC := .sq c54_2 c54_5
@[simp] theorem c54_6e : Sq c54_6 c54_2 c54_5 := sqE _ _
def c54_7 : EC := .sq c54_1 c54_6
@[simp] theorem c54_7e : Sq c54_7 c54_1 c54_6 := sqE _ _
@[simp] def c54_8l : List EO := [o 13 (.load 3 true) [t 2],
 m 14 1,
 o 15 (.call 77) [t 13, t 14],
 o 16 (.ext 0) [t 15],
 o 17 (.ext 1) [t 15],
 m 4 16,
 m 5 17]
def c54_8 : EC := .rg c54_8l false
@[simp] theorem c54_8e : Rg c54_8 c54_8l false := rgE _ _
def c54_9 : EC := .sq c54_8 .rt
@[simp] theorem c54_9e : Sq c54_9 c54_8 .rt := sqE _ _
def c54_10 : EC := .sq c54_7 c54_9
@[simp] theorem c54_10e : Sq c54_10 c54_7 c54_9 := sqE _ _
def c54_11 : EC := .sq c54_0 c54_10
@[simp] theorem c54_11e : Sq c54_11 c54_0 c54_10 := sqE _ _
def c_calendar_First_54 : EC := c54_11
theorem k_54 : ecF Try.prog 54 = some (18, c_calendar_First_54, [.tm 4, .tm 5]) := by kernel_rfl

/-- tallystone/calendar.Last -/
@[simp] def c55_0l : List EO := [o 2 .box [t 0],
 o 4 .mv [i 0],
 o 5 .mv [i 0]]
def c55_0 : EC := .rg c55_0l false
@[simp] theorem c55_0e : Rg c55_0 c55_0l false := rgE _ _
@[simp] def c55_1l : List EO := [o 13 (.load 3 true) [t 2],
 m 14 1,
 o 15 (.call 54) [t 13, t 14],
 m 12 15,
 o 16 (.ext 0) [t 12],
 o 17 (.ext 1) [t 12],
 m 6 16,
 m 7 17]
def c55_1 : EC := .rg c55_1l false
@[simp] theorem c55_1e : Rg c55_1 c55_1l false := rgE _ _
@[simp] def c55_2l : List EO := [m 18 7,
 o 19 (.bin .neq) [t 18, i 0]]
def c55_2 : EC := .rg c55_2l false
@[simp] theorem c55_2e : Rg c55_2 c55_2l false := rgE _ _
@[simp] def c55_3l : List EO := [m 20 7,
 o 4 .mv [i 0],
 m 5 20]
def c55_3 : EC := .rg c55_3l false
@[simp] theorem c55_3e : Rg c55_3 c55_3l false := rgE _ _
def c55_4 : EC := .sq c55_3 .rt
@[simp] theorem c55_4e : Sq c55_4 c55_3 .rt := sqE _ _
def c55_5 : EC := .cd (t 19) c55_4 .skip
@[simp] theorem c55_5e : Cd c55_5 (t 19) c55_4 .skip := cdE _ _ _
def c55_6 : EC := .sq c55_2 c55_5
@[simp] theorem c55_6e : Sq c55_6 c55_2 c55_5 := sqE _ _
@[simp] def c55_7l : List EO := [m 22 6,
 o 23 (.call 78) [t 22],
 m 21 23,
 o 24 (.ext 0) [t 21],
 o 25 (.ext 1) [t 21],
 o 26 (.ext 2) [t 21],
 o 27 (.ext 3) [t 21],
 m 8 24,
 m 9 25,
 m 10 26,
 m 11 27]
def c55_7 : EC := .rg c55_7l false
@[simp] theorem c55_7e : Rg c55_7 c55_7l false := rgE _ _
@[simp] def c55_8l : List EO := [m 28 6,
 m 29 8,
 m 30 9,
 o 31 (.call 79) [t 29, t 30],
 o 32 (.bin .add) [t 28, t 31],
 o 33 (.bin .sub) [t 32, i 1],
 m 4 33,
 o 5 .mv [i 0]]
def c55_8 : EC := .rg c55_8l false
@[simp] theorem c55_8e : Rg c55_8 c55_8l false := rgE _ _
def c55_9 : EC := .sq c55_8 .rt
@[simp] theorem c55_9e : Sq c55_9 c55_8 .rt := sqE _ _
def c55_10 : EC := .sq c55_7 c55_9
@[simp] theorem c55_10e : Sq c55_10 c55_7 c55_9 := sqE _ _
def c55_11 : EC := .sq c55_6 c55_10
@[simp] theorem c55_11e : Sq c55_11 c55_6 c55_10 := sqE _ _
def c55_12 : EC := .sq c55_1 c55_11
@[simp] theorem c55_12e : Sq c55_12 c55_1 c55_11 := sqE _ _
def c55_13 : EC := .sq c55_0 c55_12
@[simp] theorem c55_13e : Sq c55_13 c55_0 c55_12 := sqE _ _
def c_calendar_Last_55 : EC := c55_13
theorem k_55 : ecF Try.prog 55 = some (34, c_calendar_Last_55, [.tm 4, .tm 5]) := by kernel_rfl

/-- slices.IndexFunc[[]tallystone/api.Account,tallystone/api.Account] -/
@[simp] def c56_0l : List EO := [o 4 .mv [i 0]]
def c56_0 : EC := .rg c56_0l false
@[simp] theorem c56_0e : Rg c56_0 c56_0l false := rgE _ _
@[simp] def c56_1l : List EO := [m 6 0,
 o 7 .lenL [t 6],
 o 8 .mv [i 0]]
def c56_1 : EC := .rg c56_1l false
@[simp] theorem c56_1e : Rg c56_1 c56_1l false := rgE _ _
@[simp] def c56_2l : List EO := [o 9 (.bin .lss) [t 8, t 7]]
def c56_2 : EC := .rg c56_2l false
@[simp] theorem c56_2e : Rg c56_2 c56_2l false := rgE _ _
def c56_3 : EC := .cd (t 9) .skip (.ex 0)
@[simp] theorem c56_3e : Cd c56_3 (t 9) .skip (.ex 0) := cdE _ _ _
@[simp] def c56_4l : List EO := [m 10 8,
 m 5 10]
def c56_4 : EC := .rg c56_4l false
@[simp] theorem c56_4e : Rg c56_4 c56_4l false := rgE _ _
@[simp] def c56_5l : List EO := [m 11 1,
 m 12 0,
 m 13 5,
 o 14 (.iaS 4) [t 12, t 13],
 o 15 (.load 4 true) [t 14],
 o 16 .callv [t 11, t 15]]
def c56_5 : EC := .rg c56_5l false
@[simp] theorem c56_5e : Rg c56_5 c56_5l false := rgE _ _
@[simp] def c56_6l : List EO := [m 17 5,
 m 4 17]
def c56_6 : EC := .rg c56_6l false
@[simp] theorem c56_6e : Rg c56_6 c56_6l false := rgE _ _
def c56_7 : EC := .sq c56_6 .rt
@[simp] theorem c56_7e : Sq c56_7 c56_6 .rt := sqE _ _
def c56_8 : EC := .cd (t 16) c56_7 .skip
@[simp] theorem c56_8e : Cd c56_8 (t 16) c56_7 .skip := cdE _ _ _
def c56_9 : EC := .sq c56_5 c56_8
@[simp] theorem c56_9e : Sq c56_9 c56_5 c56_8 := sqE _ _
def c56_10 : EC := .sq c56_4 c56_9
@[simp] theorem c56_10e : Sq c56_10 c56_4 c56_9 := sqE _ _
def c56_11 : EC := .bk 1 c56_10
@[simp] theorem c56_11e : Bk c56_11 1 c56_10 := bkE _ _
@[simp] def c56_12l : List EO := [o 18 (.bin .add) [t 8, i 1],
 m 8 18]
def c56_12 : EC := .rg c56_12l false
@[simp] theorem c56_12e : Rg c56_12 c56_12l false := rgE _ _
def c56_13 : EC := .sq c56_11 c56_12
@[simp] theorem c56_13e : Sq c56_13 c56_11 c56_12 := sqE _ _
def c56_14 : EC := .sq c56_3 c56_13
@[simp] theorem c56_14e : Sq c56_14 c56_3 c56_13 := sqE _ _
def c56_15 : EC := .sq c56_2 c56_14
@[simp] theorem c56_15e : Sq c56_15 c56_2 c56_14 := sqE _ _
def c56_16 : EC := .bk 0 (.lp c56_15)
@[simp] theorem c56_16e : Bk c56_16 0 (.lp c56_15) := bkE _ _
def c56_17 : EC := .sq c56_1 c56_16
@[simp] theorem c56_17e : Sq c56_17 c56_1 c56_16 := sqE _ _
@[simp] def c56_18l : List EO := [o 4 .mv [i (-1)]]
def c56_18 : EC := .rg c56_18l false
@[simp] theorem c56_18e : Rg c56_18 c56_18l false := rgE _ _
def c56_19 : EC := .sq c56_18 .rt
@[simp] theorem c56_19e : Sq c56_19 c56_18 .rt := sqE _ _
def c56_20 : EC := .sq c56_17 c56_19
@[simp] theorem c56_20e : Sq c56_20 c56_17 c56_19 := sqE _ _
def c56_21 : EC := .sq c56_0 c56_20
@[simp] theorem c56_21e : Sq c56_21 c56_0 c56_20 := sqE _ _
def c_api_Account__56 : EC := c56_21
theorem k_56 : ecF Try.prog 56 = some (19, c_api_Account__56, [.tm 4]) := by kernel_rfl

/-- tallystone/group.Account$1 -/
@[simp] def c57_0l : List EO := [o 2 .box [t 0],
 o 3 .mv [b false]]
def c57_0 : EC := .rg c57_0l false
@[simp] theorem c57_0e : Rg c57_0 c57_0l false := rgE _ _
@[simp] def c57_1l : List EO := [o 4 (.faddr 0) [t 2],
 o 5 (.load 1 false) [t 4],
 o 6 (.load 1 false) [t 1],
 o 7 (.bin .eql) [t 5, t 6],
 m 3 7]
def c57_1 : EC := .rg c57_1l false
@[simp] theorem c57_1e : Rg c57_1 c57_1l false := rgE _ _
def c57_2 : EC := .sq c57_1 .rt
@[simp] theorem c57_2e : Sq c57_2 c57_1 .rt := sqE _ _
def c57_3 : EC := .sq c57_0 c57_2
@[simp] theorem c57_3e : Sq c57_3 c57_0 c57_2 := sqE _ _
def c_group_AccountS1_57 : EC := c57_3
theorem k_57 : ecF Try.prog 57 = some (8, c_group_AccountS1_57, [.tm 3]) := by kernel_rfl

/-- (tallystone/note.collector).parts -/
@[simp] def c58_0l : List EO := [o 4 .box [t 0],
 o 5 .box [t 1]]
def c58_0 : EC := .rg c58_0l false
@[simp] theorem c58_0e : Rg c58_0 c58_0l false := rgE _ _
@[simp] def c58_1l : List EO := [o 12 (.faddr 2) [t 5],
 o 13 (.load 1 false) [t 12],
 o 14 .lenL [t 13],
 o 15 .mv [i 0]]
def c58_1 : EC := .rg c58_1l false
@[simp] theorem c58_1e : Rg c58_1 c58_1l false := rgE _ _
@[simp] def c58_2l : List EO := [o 16 (.bin .lss) [t 15, t 14]]
def c58_2 : EC := .rg c58_2l false
@[simp] theorem c58_2e : Rg c58_2 c58_2l false := rgE _ _
def c58_3 : EC := .cd (t 16) .skip (.ex 0)
@[simp] theorem c58_3e : Cd c58_3 (t 16) .skip (.ex 0) := cdE _ _ _
@[simp] def c58_4l : List EO := [o 17 (.iaS 5) [t 13, t 15],
 o 18 (.load 5 true) [t 17],
 o 9 (.alloc [.t (.int .i64 0), .t (.int .i64 0), .t (.int .i64 0), .t (.int .i64 0), .snil]) [],
 u (.store 5) [t 9, t 18]]
def c58_4 : EC := .rg c58_4l false
@[simp] theorem c58_4e : Rg c58_4 c58_4l false := rgE _ _
@[simp] def c58_5l : List EO := [o 19 (.faddr 4) [t 9],
 o 20 (.load 1 false) [t 19],
 o 21 .lenL [t 20],
 o 22 .mv [i 0]]
def c58_5 : EC := .rg c58_5l false
@[simp] theorem c58_5e : Rg c58_5 c58_5l false := rgE _ _
@[simp] def c58_6l : List EO := [o 23 (.bin .lss) [t 22, t 21]]
def c58_6 : EC := .rg c58_6l false
@[simp] theorem c58_6e : Rg c58_6 c58_6l false := rgE _ _
def c58_7 : EC := .cd (t 23) .skip (.ex 2)
@[simp] theorem c58_7e : Cd c58_7 (t 23) .skip (.ex 2) := cdE _ _ _
@[simp] def c58_8l : List EO := [o 24 (.iaS 2) [t 20, t 22],
 o 25 (.load 2 true) [t 24],
 o 11 (.alloc [.t (.int .i64 0), .t (.int .i64 0)]) [],
 u (.store 2) [t 11, t 25]]
def c58_8 : EC := .rg c58_8l false
@[simp] theorem c58_8e : Rg c58_8 c58_8l false := rgE _ _
@[simp] def c58_9l : List EO := [o 26 (.faddr 0) [t 11],
 o 27 (.load 1 false) [t 26],
 o 28 (.faddr 0) [t 4],
 o 29 (.load 1 false) [t 28],
 o 30 .nilc [t 29],
 o 31 (.faddr 0) [t 30],
 o 32 (.load 1 false) [t 31],
 o 33 (.bin .neq) [t 27, t 32]]
def c58_9 : EC := .rg c58_9l true
@[simp] theorem c58_9e : Rg c58_9 c58_9l true := rgE _ _
def c58_10 : EC := .cd (t 33) (.ex 3) .skip
@[simp] theorem c58_10e : Cd c58_10 (t 33) (.ex 3) .skip := cdE _ _ _
def c58_11 : EC := .sq c58_9 c58_10
@[simp] theorem c58_11e : Sq c58_11 c58_9 c58_10 := sqE _ _
@[simp] def c58_12l : List EO := [m 34 2,
 o 35 .nilc [t 34],
 o 36 (.load 1 false) [t 35],
 o 37 (.faddr 1) [t 11],
 o 38 (.load 1 false) [t 37],
 o 39 (.bin .add) [t 36, t 38],
 o 40 .nilc [t 34],
 u (.store 1) [t 40, t 39]]
def c58_12 : EC := .rg c58_12l true
@[simp] theorem c58_12e : Rg c58_12 c58_12l true := rgE _ _
@[simp] def c58_13l : List EO := [o 41 (.faddr 0) [t 9],
 o 42 (.load 1 false) [t 41],
 o 43 (.bin .geq) [t 42, i 1],
 m 44 43,
 y 45 44 (.faddr 0) [t 9],
 y 46 44 (.load 1 false) [t 45],
 y 47 44 (.bin .leq) [t 46, i 10],
 o 48 .pick [t 44, t 47, b false]]
def c58_13 : EC := .rg c58_13l false
@[simp] theorem c58_13e : Rg c58_13 c58_13l false := rgE _ _
@[simp] def c58_14l : List EO := [o 49 (.faddr 0) [t 4],
 o 50 (.load 1 false) [t 49],
 o 51 (.faddr 0) [t 9],
 o 52 (.load 1 false) [t 51],
 o 53 .nilc [t 50],
 o 54 (.faddr 5) [t 53],
 o 55 (.iaA 11 1) [t 54, t 52],
 o 56 (.load 1 false) [t 55],
 m 57 3,
 o 58 (.faddr 1) [t 11],
 o 59 (.load 1 false) [t 58],
 o 60 (.bin .mul) [t 57, t 59],
 o 61 (.bin .add) [t 56, t 60],
 o 62 .nilc [t 50],
 o 63 (.faddr 5) [t 62],
 o 64 (.iaA 11 1) [t 63, t 52],
 u (.store 1) [t 64, t 61]]
def c58_14 : EC := .rg c58_14l true
@[simp] theorem c58_14e : Rg c58_14 c58_14l true := rgE _ _
def c58_15 : EC := .cd (t 48) c58_14 .skip
@[simp] theorem c58_15e : Cd c58_15 (t 48) c58_14 .skip := cdE _ _ _
def c58_16 : EC := .sq c58_13 c58_15
@[simp] theorem c58_16e : Sq c58_16 c58_13 c58_15 := sqE _ _
def c58_17 : EC := .sq c58_12 c58_16
@[simp] theorem c58_17e : Sq c58_17 c58_12 c58_16 := sqE _ _
def c58_18 : EC := .sq c58_11 c58_17
@[simp] theorem c58_18e : Sq c58_18 c58_11 c58_17 := sqE _ _
def c58_19 : EC := .sq c58_8 c58_18
@[simp] theorem c58_19e : Sq c58_19 c58_8 c58_18 := sqE _ _
def c58_20 : EC := .bk 3 c58_19
@[simp] theorem c58_20e : Bk c58_20 3 c58_19 := bkE _ _
@[simp] def c58_21l : List EO := [o 65 (.bin .add) [t 22, i 1],
 m 22 65]
def c58_21 : EC := .rg c58_21l false
@[simp] theorem c58_21e : Rg c58_21 c58_21l false := rgE _ _
def c58_22 : EC := .sq c58_20 c58_21
@[simp] theorem c58_22e : Sq c58_22 c58_20 c58_21 := sqE _ _
def c58_23 : EC := .sq c58_7 c58_22
@[simp] theorem c58_23e : Sq c58_23 c58_7 c58_22 := sqE _ _
def c58_24 : EC := .sq c58_6 c58_23
@[simp] theorem c58_24e : Sq c58_24 c58_6 c58_23 := sqE _ _
def c58_25 : EC := .bk 2 (.lp c58_24)
@[simp] theorem c58_25e : Bk c58_25 2 (.lp c58_24) := bkE _ _
def c58_26 : EC := .sq c58_5 c58_25
@[simp] theorem c58_26e : Sq c58_26 c58_5 c58_25 := sqE _ _
def c58_27 : EC := .sq c58_4 c58_26
@[simp] theorem c58_27e : Sq c58_27 c58_4 c58_26 := sqE _ _
def c58_28 : EC := .bk 1 c58_27
@[simp] theorem c58_28e : Bk c58_28 1 c58_27 := bkE _ _
@[simp] def c58_29l : List EO := [o 66 (.bin .add) [t 15, i 1],
 m 15 66]
def c58_29 : EC := .rg c58_29l false
@[simp] theorem c58_29e : Rg c58_29 c58_29l false := rgE _ _
def c58_30 : EC := .sq c58_28 c58_29
@[simp] theorem c58_30e : Sq c58_30 c58_28 c58_29 := sqE _ _
def c58_31 : EC := .sq c58_3 c58_30
@[simp] theorem c58_31e : Sq c58_31 c58_3 c58_30 := sqE _ _
def c58_32 : EC := .sq c58_2 c58_31
@[simp] theorem c58_32e : Sq c58_32 c58_2 c58_31 := sqE _ _
def c58_33 : EC := .bk 0 (.lp c58_32)
@[simp] theorem c58_33e : Bk c58_33 0 (.lp c58_32) := bkE _ _
def c58_34 : EC := .sq c58_1 c58_33
@[simp] theorem c58_34e : Sq c58_34 c58_1 c58_33 := sqE _ _
def c58_35 : EC := .sq c58_0 c58_34
@[simp] theorem c58_35e : Sq c58_35 c58_0 c58_34 := sqE _ _
def c_note_collector__parts_58 : EC := c58_35
theorem k_58 : ecF Try.prog 58 = some (67, c_note_collector__parts_58, []) := by kernel_rfl

/-- slices.IndexFunc[[]int,int] -/
@[simp] def c59_0l : List EO := [o 4 .mv [i 0]]
def c59_0 : EC := .rg c59_0l false
@[simp] theorem c59_0e : Rg c59_0 c59_0l false := rgE _ _
@[simp] def c59_1l : List EO := [m 6 0,
 o 7 .lenL [t 6],
 o 8 .mv [i 0]]
def c59_1 : EC := .rg c59_1l false
@[simp] theorem c59_1e : Rg c59_1 c59_1l false := rgE _ _
@[simp] def c59_2l : List EO := [o 9 (.bin .lss) [t 8, t 7]]
def c59_2 : EC := .rg c59_2l false
@[simp] theorem c59_2e : Rg c59_2 c59_2l false := rgE _ _
def c59_3 : EC := .cd (t 9) .skip (.ex 0)
@[simp] theorem c59_3e : Cd c59_3 (t 9) .skip (.ex 0) := cdE _ _ _
@[simp] def c59_4l : List EO := [m 10 8,
 m 5 10]
def c59_4 : EC := .rg c59_4l false
@[simp] theorem c59_4e : Rg c59_4 c59_4l false := rgE _ _
@[simp] def c59_5l : List EO := [m 11 1,
 m 12 0,
 m 13 5,
 o 14 (.iaS 1) [t 12, t 13],
 o 15 (.load 1 false) [t 14],
 o 16 .callv [t 11, t 15]]
def c59_5 : EC := .rg c59_5l false
@[simp] theorem c59_5e : Rg c59_5 c59_5l false := rgE _ _
@[simp] def c59_6l : List EO := [m 17 5,
 m 4 17]
def c59_6 : EC := .rg c59_6l false
@[simp] theorem c59_6e : Rg c59_6 c59_6l false := rgE _ _
def c59_7 : EC := .sq c59_6 .rt
@[simp] theorem c59_7e : Sq c59_7 c59_6 .rt := sqE _ _
def c59_8 : EC := .cd (t 16) c59_7 .skip
@[simp] theorem c59_8e : Cd c59_8 (t 16) c59_7 .skip := cdE _ _ _
def c59_9 : EC := .sq c59_5 c59_8
@[simp] theorem c59_9e : Sq c59_9 c59_5 c59_8 := sqE _ _
def c59_10 : EC := .sq c59_4 c59_9
@[simp] theorem c59_10e : Sq c59_10 c59_4 c59_9 := sqE _ _
def c59_11 : EC := .bk 1 c59_10
@[simp] theorem c59_11e : Bk c59_11 1 c59_10 := bkE _ _
@[simp] def c59_12l : List EO := [o 18 (.bin .add) [t 8, i 1],
 m 8 18]
def c59_12 : EC := .rg c59_12l false
@[simp] theorem c59_12e : Rg c59_12 c59_12l false := rgE _ _
def c59_13 : EC := .sq c59_11 c59_12
@[simp] theorem c59_13e : Sq c59_13 c59_11 c59_12 := sqE _ _
def c59_14 : EC := .sq c59_3 c59_13
@[simp] theorem c59_14e : Sq c59_14 c59_3 c59_13 := sqE _ _
def c59_15 : EC := .sq c59_2 c59_14
@[simp] theorem c59_15e : Sq c59_15 c59_2 c59_14 := sqE _ _
def c59_16 : EC := .bk 0 (.lp c59_15)
@[simp] theorem c59_16e : Bk c59_16 0 (.lp c59_15) := bkE _ _
def c59_17 : EC := .sq c59_1 c59_16
@[simp] theorem c59_17e : Sq c59_17 c59_1 c59_16 := sqE _ _
@[simp] def c59_18l : List EO := [o 4 .mv [i (-1)]]
def c59_18 : EC := .rg c59_18l false
@[simp] theorem c59_18e : Rg c59_18 c59_18l false := rgE _ _
def c59_19 : EC := .sq c59_18 .rt
@[simp] theorem c59_19e : Sq c59_19 c59_18 .rt := sqE _ _
def c59_20 : EC := .sq c59_17 c59_19
@[simp] theorem c59_20e : Sq c59_20 c59_17 c59_19 := sqE _ _
def c59_21 : EC := .sq c59_0 c59_20
@[simp] theorem c59_21e : Sq c59_21 c59_0 c59_20 := sqE _ _
def c_slices_IndexFunc___int_int__59 : EC := c59_21
theorem k_59 : ecF Try.prog 59 = some (19, c_slices_IndexFunc___int_int__59, [.tm 4]) := by kernel_rfl

/-- tallystone/tallystoneref10.Currency -/
@[simp] def c60_0l : List EO := [o 2 .mv [b false]]
def c60_0 : EC := .rg c60_0l false
@[simp] theorem c60_0e : Rg c60_0 c60_0l false := rgE _ _
@[simp] def c60_1l : List EO := [o 3 .mv [i 0]]
def c60_1 : EC := .rg c60_1l false
@[simp] theorem c60_1e : Rg c60_1 c60_1l false := rgE _ _
@[simp] def c60_2l : List EO := [m 4 3,
 m 5 0,
 o 6 .lenS [t 5],
 o 7 (.bin .lss) [t 4, t 6]]
def c60_2 : EC := .rg c60_2l false
@[simp] theorem c60_2e : Rg c60_2 c60_2l false := rgE _ _
def c60_3 : EC := .cd (t 7) .skip (.ex 0)
@[simp] theorem c60_3e : Cd c60_3 (t 7) .skip (.ex 0) := cdE _ _ _
def c60_4 : EC := .sq c60_2 c60_3
@[simp] theorem c60_4e : Sq c60_4 c60_2 c60_3 := sqE _ _
@[simp] def c60_5l : List EO := [m 10 0,
 m 11 3,
 o 12 .ixS [t 10, t 11],
 o 13 (.bin .lss) [t 12, c (.t (.int .u8 65))],
 m 14 13,
 n 15 14 .mv [t 0],
 n 16 14 .mv [t 3],
 n 17 14 .ixS [t 15, t 16],
 n 18 14 (.bin .gtr) [t 17, c (.t (.int .u8 90))],
 o 19 .pick [t 14, b true, t 18]]
def c60_5 : EC := .rg c60_5l false
@[simp] theorem c60_5e : Rg c60_5 c60_5l false := rgE _ _
@[simp] def c60_6l : List EO := [o 2 .mv [b false]]
def c60_6 : EC := .rg c60_6l false
@[simp] theorem c60_6e : Rg c60_6 c60_6l false := rgE _ _
def c60_7 : EC := .sq c60_6 .rt
@[simp] theorem c60_7e : Sq c60_7 c60_6 .rt := sqE _ _
def c60_8 : EC := .cd (t 19) c60_7 .skip
@[simp] theorem c60_8e : Cd c60_8 (t 19) c60_7 .skip := cdE _ _ _
def c60_9 : EC := .sq c60_5 c60_8
@[simp] theorem c60_9e : Sq c60_9 c60_5 c60_8 := sqE _ _
def c60_10 : EC := .bk 1 c60_9
@[simp] theorem c60_10e : Bk c60_10 1 c60_9 := bkE _ _
@[simp] def c60_11l : List EO := [m 8 3,
 o 9 (.bin .add) [t 8, i 1],
 m 3 9]
def c60_11 : EC := .rg c60_11l false
@[simp] theorem c60_11e : Rg c60_11 c60_11l false := rgE _ _
def c60_12 : EC := .sq c60_10 c60_11
@[simp] theorem c60_12e : Sq c60_12 c60_10 c60_11 := sqE _ _
def c60_13 : EC := .sq c60_4 c60_12
@[simp] theorem c60_13e : Sq c60_13 c60_4 c60_12 := sqE _ _
def c60_14 : EC := .bk 0 (.lp c60_13)
@[simp] theorem c60_14e : Bk c60_14 0 (.lp c60_13) := bkE _ _
def c60_15 : EC := .sq c60_1 c60_14
@[simp] theorem c60_15e : Sq c60_15 c60_1 c60_14 := sqE _ _
@[simp] def c60_16l : List EO := [m 20 0,
 o 21 .lenS [t 20],
 o 22 (.bin .eql) [t 21, i 3],
 m 2 22]
def c60_16 : EC := .rg c60_16l false
@[simp] theorem c60_16e : Rg c60_16 c60_16l false := rgE _ _
def c60_17 : EC := .sq c60_16 .rt
@[simp] theorem c60_17e : Sq c60_17 c60_16 .rt := sqE _ _
def c60_18 : EC := .sq c60_15 c60_17
@[simp] theorem c60_18e : Sq c60_18 c60_15 c60_17 := sqE _ _
def c60_19 : EC := .sq c60_0 c60_18
@[simp] theorem c60_19e : Sq c60_19 c60_0 c60_18 := sqE _ _
def c_tallystoneref10_Currency_60 : EC := c60_19
theorem k_60 : ecF Try.prog 60 = some (23, c_tallystoneref10_Currency_60, [.tm 2]) := by kernel_rfl

/-- tallystone/tallystoneref07.Valid -/
@[simp] def c61_0l : List EO := [o 1 .box [t 0],
 o 2 .mv [b false]]
def c61_0 : EC := .rg c61_0l false
@[simp] theorem c61_0e : Rg c61_0 c61_0l false := rgE _ _
@[simp] def c61_1l : List EO := [o 5 (.faddr 2) [t 1],
 o 6 (.load 1 false) [t 5],
 o 7 (.bin .lss) [t 6, i 1],
 m 8 7,
 n 9 8 (.faddr 2) [t 1],
 n 10 8 (.load 1 false) [t 9],
 n 11 8 (.bin .gtr) [t 10, i 120],
 o 12 .pick [t 8, b true, t 11]]
def c61_1 : EC := .rg c61_1l false
@[simp] theorem c61_1e : Rg c61_1 c61_1l false := rgE _ _
@[simp] def c61_2l : List EO := [o 2 .mv [b false]]
def c61_2 : EC := .rg c61_2l false
@[simp] theorem c61_2e : Rg c61_2 c61_2l false := rgE _ _
def c61_3 : EC := .sq c61_2 .rt
@[simp] theorem c61_3e : Sq c61_3 c61_2 .rt := sqE _ _
def c61_4 : EC := .cd (t 12) c61_3 .skip
@[simp] theorem c61_4e : Cd c61_4 (t 12) c61_3 .skip := cdE _ _ _
def c61_5 : EC := .sq c61_1 c61_4
@[simp] theorem c61_5e : Sq c61_5 c61_1 c61_4 := sqE _ _
@[simp] def c61_6l : List EO := [o 14 (.load 3 true) [t 1],
 o 15 (.faddr 2) [t 1],
 o 16 (.load 1 false) [t 15],
 o 17 (.bin .sub) [t 16, i 1],
 o 18 (.call 46) [t 14, t 17],
 m 13 18,
 o 19 (.ext 0) [t 13],
 o 20 (.ext 1) [t 13],
 m 3 19,
 m 4 20]
def c61_6 : EC := .rg c61_6l false
@[simp] theorem c61_6e : Rg c61_6 c61_6l false := rgE _ _
@[simp] def c61_7l : List EO := [m 21 4,
 o 22 (.bin .eql) [t 21, i 0],
 m 2 22]
def c61_7 : EC := .rg c61_7l false
@[simp] theorem c61_7e : Rg c61_7 c61_7l false := rgE _ _
def c61_8 : EC := .sq c61_7 .rt
@[simp] theorem c61_8e : Sq c61_8 c61_7 .rt := sqE _ _
def c61_9 : EC := .sq c61_6 c61_8
@[simp] theorem c61_9e : Sq c61_9 c61_6 c61_8 := sqE _ _
def c61_10 : EC := .sq c61_5 c61_9
@[simp] theorem c61_10e : Sq c61_10 c61_5 c61_9 := sqE _ _
def c61_11 : EC := .sq c61_0 c61_10
@[simp] theorem c61_11e : Sq c61_11 c61_0 c61_10 := sqE _ _
def c_tallystoneref07_Valid_61 : EC := c61_11
theorem k_61 : ecF Try.prog 61 = some (23, c_tallystoneref07_Valid_61, [.tm 2]) := by kernel_rfl

/-- tallystone/tallystoneref08.Valid -/
@[simp] def c62_0l : List EO := [o 4 .mv [b false]]
def c62_0 : EC := .rg c62_0l false
@[simp] theorem c62_0e : Rg c62_0 c62_0l false := rgE _ _
@[simp] def c62_1l : List EO := [m 6 0,
 o 7 .lenL [t 6],
 o 8 (.bin .gtr) [t 7, i 200]]
def c62_1 : EC := .rg c62_1l false
@[simp] theorem c62_1e : Rg c62_1 c62_1l false := rgE _ _
@[simp] def c62_2l : List EO := [o 4 .mv [b false]]
def c62_2 : EC := .rg c62_2l false
@[simp] theorem c62_2e : Rg c62_2 c62_2l false := rgE _ _
def c62_3 : EC := .sq c62_2 .rt
@[simp] theorem c62_3e : Sq c62_3 c62_2 .rt := sqE _ _
def c62_4 : EC := .cd (t 8) c62_3 .skip
@[simp] theorem c62_4e : Cd c62_4 (t 8) c62_3 .skip := cdE _ _ _
def c62_5 : EC := .sq c62_1 c62_4
@[simp] theorem c62_5e : Sq c62_5 c62_1 c62_4 := sqE _ _
@[simp] def c62_6l : List EO := [o 5 .mv [i 0]]
def c62_6 : EC := .rg c62_6l false
@[simp] theorem c62_6e : Rg c62_6 c62_6l false := rgE _ _
@[simp] def c62_7l : List EO := [m 9 5,
 m 10 0,
 o 11 .lenL [t 10],
 o 12 (.bin .lss) [t 9, t 11]]
def c62_7 : EC := .rg c62_7l false
@[simp] theorem c62_7e : Rg c62_7 c62_7l false := rgE _ _
def c62_8 : EC := .cd (t 12) .skip (.ex 0)
@[simp] theorem c62_8e : Cd c62_8 (t 12) .skip (.ex 0) := cdE _ _ _
def c62_9 : EC := .sq c62_7 c62_8
@[simp] theorem c62_9e : Sq c62_9 c62_7 c62_8 := sqE _ _
@[simp] def c62_10l : List EO := [m 15 0,
 m 16 0,
 m 17 5,
 o 18 (.iaS 4) [t 16, t 17],
 o 19 (.load 4 true) [t 18],
 m 20 1,
 o 21 (.call 80) [t 15, t 19, t 20],
 o 22 (.un .not) [t 21],
 m 23 22,
 n 24 23 .mv [t 5],
 n 25 23 (.bin .gtr) [t 24, i 0],
 n 26 23 .mv [t 25],
 y 27 26 .mv [t 0],
 y 28 26 .mv [t 5],
 y 29 26 (.iaS 4) [t 27, t 28],
 y 30 26 (.faddr 0) [t 29],
 y 31 26 (.load 1 false) [t 30],
 y 32 26 .mv [t 0],
 y 33 26 .mv [t 5],
 y 34 26 (.bin .sub) [t 33, i 1],
 y 35 26 (.iaS 4) [t 32, t 34],
 y 36 26 (.faddr 0) [t 35],
 y 37 26 (.load 1 false) [t 36],
 y 38 26 (.bin .leq) [t 31, t 37],
 n 39 23 .pick [t 26, t 38, b false],
 o 40 .pick [t 23, b true, t 39],
 m 41 40,
 n 42 41 .mv [t 0],
 n 43 41 .mv [t 0],
 n 44 41 .mv [t 5],
 n 45 41 (.iaS 4) [t 43, t 44],
 n 46 41 (.faddr 0) [t 45],
 n 47 41 (.load 1 false) [t 46],
 n 48 41 (.call 81) [t 42, t 47],
 n 49 41 .lenL [t 48],
 n 50 41 .mv [t 0],
 n 51 41 .lenL [t 50],
 n 52 41 (.bin .gtr) [t 49, t 51],
 o 53 .pick [t 41, b true, t 52]]
def c62_10 : EC := .rg c62_10l true
@[simp] theorem c62_10e : Rg c62_10 c62_10l true := rgE _ _
@[simp] def c62_11l : List EO := [o 4 .mv [b false]]
def c62_11 : EC := .rg c62_11l false
@[simp] theorem c62_11e : Rg c62_11 c62_11l false := rgE _ _
def c62_12 : EC := .sq c62_11 .rt
@[simp] theorem c62_12e : Sq c62_12 c62_11 .rt := sqE _ _
def c62_13 : EC := .cd (t 53) c62_12 .skip
@[simp] theorem c62_13e : Cd c62_13 (t 53) c62_12 .skip := cdE _ _ _
def c62_14 : EC := .sq c62_10 c62_13
@[simp] theorem c62_14e : Sq c62_14 c62_10 c62_13 := sqE _ _
def c62_15 : EC := .bk 1 c62_14
@[simp] theorem c62_15e : Bk c62_15 1 c62_14 := bkE _ _
@[simp] def c62_16l : List EO := [m 13 5,
 o 14 (.bin .add) [t 13, i 1],
 m 5 14]
def c62_16 : EC := .rg c62_16l false
@[simp] theorem c62_16e : Rg c62_16 c62_16l false := rgE _ _
def c62_17 : EC := .sq c62_15 c62_16
@[simp] theorem c62_17e : Sq c62_17 c62_15 c62_16 := sqE _ _
def c62_18 : EC := .sq c62_9 c62_17
@[simp] theorem c62_18e : Sq c62_18 c62_9 c62_17 := sqE _ _
def c62_19 : EC := .bk 0 (.lp c62_18)
@[simp] theorem c62_19e : Bk c62_19 0 (.lp c62_18) := bkE _ _
def c62_20 : EC := .sq c62_6 c62_19
@[simp] theorem c62_20e : Sq c62_20 c62_6 c62_19 := sqE _ _
@[simp] def c62_21l : List EO := [o 4 .mv [b true]]
def c62_21 : EC := .rg c62_21l false
@[simp] theorem c62_21e : Rg c62_21 c62_21l false := rgE _ _
def c62_22 : EC := .sq c62_21 .rt
@[simp] theorem c62_22e : Sq c62_22 c62_21 .rt := sqE _ _
def c62_23 : EC := .sq c62_20 c62_22
@[simp] theorem c62_23e : Sq c62_23 c62_20 c62_22 := sqE _ _
def c62_24 : EC := .sq c62_5 c62_23
@[simp] theorem c62_24e : Sq c62_24 c62_5 c62_23 := sqE _ _
def c62_25 : EC := .sq c62_0 c62_24
@[simp] theorem c62_25e : Sq c62_25 c62_0 c62_24 := sqE _ _
def c_tallystoneref08_Valid_62 : EC := c62_25
theorem k_62 : ecF Try.prog 62 = some (54, c_tallystoneref08_Valid_62, [.tm 4]) := by kernel_rfl

/-- tallystone/tallystoneref10.basis -/
@[simp] def c63_0l : List EO := [o 1 .box [t 0],
 o 2 .mv [b false]]
def c63_0 : EC := .rg c63_0l false
@[simp] theorem c63_0e : Rg c63_0 c63_0l false := rgE _ _
@[simp] def c63_1l : List EO := [o 3 (.faddr 1) [t 1],
 o 4 (.load 1 false) [t 3]]
def c63_1 : EC := .rg c63_1l false
@[simp] theorem c63_1e : Rg c63_1 c63_1l false := rgE _ _
@[simp] def c63_2l : List EO := [o 6 (.bin .eql) [t 4, i 1],
 m 5 6]
def c63_2 : EC := .rg c63_2l false
@[simp] theorem c63_2e : Rg c63_2 c63_2l false := rgE _ _
@[simp] def c63_3l : List EO := [o 7 (.bin .eql) [t 4, i 2],
 m 5 7]
def c63_3 : EC := .rg c63_3l false
@[simp] theorem c63_3e : Rg c63_3 c63_3l false := rgE _ _
def c63_4 : EC := .cd (t 5) .skip c63_3
@[simp] theorem c63_4e : Cd c63_4 (t 5) .skip c63_3 := cdE _ _ _
def c63_5 : EC := .sq c63_2 c63_4
@[simp] theorem c63_5e : Sq c63_5 c63_2 c63_4 := sqE _ _
@[simp] def c63_6l : List EO := [o 8 (.faddr 2) [t 1],
 o 9 (.load 1 false) [t 8],
 o 10 (.bin .eql) [t 9, i 1],
 m 11 10,
 n 12 11 (.faddr 2) [t 1],
 n 13 11 (.load 1 false) [t 12],
 n 14 11 (.bin .eql) [t 13, i 3],
 o 15 .pick [t 11, b true, t 14],
 m 2 15]
def c63_6 : EC := .rg c63_6l false
@[simp] theorem c63_6e : Rg c63_6 c63_6l false := rgE _ _
def c63_7 : EC := .sq c63_6 .rt
@[simp] theorem c63_7e : Sq c63_7 c63_6 .rt := sqE _ _
@[simp] def c63_8l : List EO := [o 17 (.bin .eql) [t 4, i 3],
 m 16 17]
def c63_8 : EC := .rg c63_8l false
@[simp] theorem c63_8e : Rg c63_8 c63_8l false := rgE _ _
@[simp] def c63_9l : List EO := [o 18 (.faddr 2) [t 1],
 o 19 (.load 1 false) [t 18],
 o 20 (.bin .eql) [t 19, i 3],
 m 2 20]
def c63_9 : EC := .rg c63_9l false
@[simp] theorem c63_9e : Rg c63_9 c63_9l false := rgE _ _
def c63_10 : EC := .sq c63_9 .rt
@[simp] theorem c63_10e : Sq c63_10 c63_9 .rt := sqE _ _
def c63_11 : EC := .cd (t 16) c63_10 .skip
@[simp] theorem c63_11e : Cd c63_11 (t 16) c63_10 .skip := cdE _ _ _
def c63_12 : EC := .sq c63_8 c63_11
@[simp] theorem c63_12e : Sq c63_12 c63_8 c63_11 := sqE _ _
def c63_13 : EC := .cd (t 5) c63_7 c63_12
@[simp] theorem c63_13e : Cd c63_13 (t 5) c63_7 c63_12 := cdE _ _ _
def c63_14 : EC := .sq c63_5 c63_13
@[simp] theorem c63_14e : Sq c63_14 c63_5 c63_13 := sqE _ _
def c63_15 : EC := .bk 0 c63_14
@[simp] theorem c63_15e : Bk c63_15 0 c63_14 := bkE _ _
def c63_16 : EC := .sq c63_1 c63_15
@[simp] theorem c63_16e : Sq c63_16 c63_1 c63_15 := sqE _ _
@[simp] def c63_17l : List EO := [o 21 (.faddr 2) [t 1],
 o 22 (.load 1 false) [t 21],
 o 23 (.bin .eql) [t 22, i 2],
 m 2 23]
def c63_17 : EC := .rg c63_17l false
@[simp] theorem c63_17e : Rg c63_17 c63_17l false := rgE _ _
def c63_18 : EC := .sq c63_17 .rt
@[simp] theorem c63_18e : Sq c63_18 c63_17 .rt := sqE _ _
def c63_19 : EC := .sq c63_16 c63_18
@[simp] theorem c63_19e : Sq c63_19 c63_16 c63_18 := sqE _ _
def c63_20 : EC := .sq c63_0 c63_19
@[simp] theorem c63_20e : Sq c63_20 c63_0 c63_19 := sqE _ _
def c_tallystoneref10_basis_63 : EC := c63_20
theorem k_63 : ecF Try.prog 63 = some (24, c_tallystoneref10_basis_63, [.tm 2]) := by kernel_rfl

/-- tallystone/tallystoneref10.Roles -/
@[simp] def c64_0l : List EO := [o 1 .box [t 0],
 o 2 .mv [c (.snil)]]
def c64_0 : EC := .rg c64_0l false
@[simp] theorem c64_0e : Rg c64_0 c64_0l false := rgE _ _
@[simp] def c64_1l : List EO := [o 3 (.faddr 0) [t 1],
 o 4 (.load 1 false) [t 3],
 o 5 (.build [.t (.str []), .t (.int .i64 0), .t (.int .i64 0), .t (.int .i64 0), .t (.bool false)] [(0, 1), (1, 1), (2, 1), (3, 1), (4, 1)]) [c (.t (.str [105, 110, 118, 101, 115, 116, 109, 101, 110, 116])), t 4, i 1, i 3, b true],
 o 6 (.faddr 1) [t 1],
 o 7 (.load 1 false) [t 6],
 o 8 (.build [.t (.str []), .t (.int .i64 0), .t (.int .i64 0), .t (.int .i64 0), .t (.bool false)] [(0, 1), (1, 1), (2, 1), (3, 1), (4, 1)]) [c (.t (.str [103, 111, 111, 100, 119, 105, 108, 108])), t 7, i 1, i 3, b false],
 o 9 (.faddr 2) [t 1],
 o 10 (.load 1 false) [t 9],
 o 11 (.build [.t (.str []), .t (.int .i64 0), .t (.int .i64 0), .t (.int .i64 0), .t (.bool false)] [(0, 1), (1, 1), (2, 1), (3, 1), (4, 1)]) [c (.t (.str [97, 115, 115, 111, 99, 105, 97, 116, 101, 115])), t 10, i 1, i 3, b false],
 o 12 (.faddr 3) [t 1],
 o 13 (.load 1 false) [t 12],
 o 14 (.build [.t (.str []), .t (.int .i64 0), .t (.int .i64 0), .t (.int .i64 0), .t (.bool false)] [(0, 1), (1, 1), (2, 1), (3, 1), (4, 1)]) [c (.t (.str [105, 110, 118, 101, 110, 116, 111, 114, 121])), t 13, i 1, i 1, b true],
 o 15 (.faddr 4) [t 1],
 o 16 (.load 1 false) [t 15],
 o 17 (.build [.t (.str []), .t (.int .i64 0), .t (.int .i64 0), .t (.int .i64 0), .t (.bool false)] [(0, 1), (1, 1), (2, 1), (3, 1), (4, 1)]) [c (.t (.str [114, 101, 115, 101, 114, 118, 101])), t 16, i 3, i 3, b false],
 o 18 (.faddr 5) [t 1],
 o 19 (.load 1 false) [t 18],
 o 20 (.build [.t (.str []), .t (.int .i64 0), .t (.int .i64 0), .t (.int .i64 0), .t (.bool false)] [(0, 1), (1, 1), (2, 1), (3, 1), (4, 1)]) [c (.t (.str [109, 105, 110, 111, 114, 105, 116, 121])), t 19, i 3, i 3, b false],
 o 21 (.faddr 6) [t 1],
 o 22 (.load 1 false) [t 21],
 o 23 (.build [.t (.str []), .t (.int .i64 0), .t (.int .i64 0), .t (.int .i64 0), .t (.bool false)] [(0, 1), (1, 1), (2, 1), (3, 1), (4, 1)]) [c (.t (.str [114, 101, 116, 97, 105, 110, 101, 100])), t 22, i 3, i 3, b true],
 o 24 (.faddr 7) [t 1],
 o 25 (.load 1 false) [t 24],
 o 26 (.build [.t (.str []), .t (.int .i64 0), .t (.int .i64 0), .t (.int .i64 0), .t (.bool false)] [(0, 1), (1, 1), (2, 1), (3, 1), (4, 1)]) [c (.t (.str [97, 99, 113, 117, 105, 114, 101, 100])), t 25, i 3, i 3, b false],
 o 27 (.faddr 8) [t 1],
 o 28 (.load 1 false) [t 27],
 o 29 (.build [.t (.str []), .t (.int .i64 0), .t (.int .i64 0), .t (.int .i64 0), .t (.bool false)] [(0, 1), (1, 1), (2, 1), (3, 1), (4, 1)]) [c (.t (.str [111, 119, 110, 101, 114, 115])), t 28, i 3, i 3, b false],
 o 30 (.faddr 9) [t 1],
 o 31 (.load 1 false) [t 30],
 o 32 (.build [.t (.str []), .t (.int .i64 0), .t (.int .i64 0), .t (.int .i64 0), .t (.bool false)] [(0, 1), (1, 1), (2, 1), (3, 1), (4, 1)]) [c (.t (.str [100, 105, 115, 112, 111, 115, 97, 108])), t 31, i 4, i 2, b false],
 o 33 (.faddr 10) [t 1],
 o 34 (.load 1 false) [t 33],
 o 35 (.build [.t (.str []), .t (.int .i64 0), .t (.int .i64 0), .t (.int .i64 0), .t (.bool false)] [(0, 1), (1, 1), (2, 1), (3, 1), (4, 1)]) [c (.t (.str [97, 115, 115, 111, 99, 105, 97, 116, 101, 80, 114, 111, 102, 105, 116])), t 34, i 4, i 2, b false],
 o 36 (.faddr 11) [t 1],
 o 37 (.load 1 false) [t 36],
 o 38 (.build [.t (.str []), .t (.int .i64 0), .t (.int .i64 0), .t (.int .i64 0), .t (.bool false)] [(0, 1), (1, 1), (2, 1), (3, 1), (4, 1)]) [c (.t (.str [100, 105, 118, 105, 100, 101, 110, 100, 115])), t 37, i 4, i 2, b true],
 o 39 (.faddr 12) [t 1],
 o 40 (.load 1 false) [t 39],
 o 41 (.build [.t (.str []), .t (.int .i64 0), .t (.int .i64 0), .t (.int .i64 0), .t (.bool false)] [(0, 1), (1, 1), (2, 1), (3, 1), (4, 1)]) [c (.t (.str [109, 105, 110, 111, 114, 105, 116, 121, 80, 114, 111, 102, 105, 116])), t 40, i 5, i 2, b false],
 o 42 (.faddr 13) [t 1],
 o 43 (.load 1 false) [t 42],
 o 44 (.build [.t (.str []), .t (.int .i64 0), .t (.int .i64 0), .t (.int .i64 0), .t (.bool false)] [(0, 1), (1, 1), (2, 1), (3, 1), (4, 1)]) [c (.t (.str [100, 105, 102, 102, 101, 114, 101, 110, 99, 101])), t 43, i 5, i 2, b false],
 o 45 (.faddr 14) [t 1],
 o 46 (.load 1 false) [t 45],
 o 47 (.build [.t (.str []), .t (.int .i64 0), .t (.int .i64 0), .t (.int .i64 0), .t (.bool false)] [(0, 1), (1, 1), (2, 1), (3, 1), (4, 1)]) [c (.t (.str [109, 97, 114, 103, 105, 110])), t 46, i 5, i 2, b false],
 o 48 (.bsl 5) [t 5, t 8, t 11, t 14, t 17, t 20, t 23, t 26, t 29, t 32, t 35, t 38, t 41, t 44, t 47],
 m 2 48]
def c64_1 : EC := .rg c64_1l false
@[simp] theorem c64_1e : Rg c64_1 c64_1l false := rgE _ _
def c64_2 : EC := .sq c64_1 .rt
@[simp] theorem c64_2e : Sq c64_2 c64_1 .rt := sqE _ _
def c64_3 : EC := .sq c64_0 c64_2
@[simp] theorem c64_3e : Sq c64_3 c64_0 c64_2 := sqE _ _
def c_tallystoneref10_Roles_64 : EC := c64_3
theorem k_64 : ecF Try.prog 64 = some (49, c_tallystoneref10_Roles_64, [.tm 2]) := by kernel_rfl

/-- tallystone/tallystoneref10.Name -/
@[simp] def c65_0l : List EO := [o 2 .mv [b false]]
def c65_0 : EC := .rg c65_0l false
@[simp] theorem c65_0e : Rg c65_0 c65_0l false := rgE _ _
@[simp] def c65_1l : List EO := [o 3 .mv [i 0]]
def c65_1 : EC := .rg c65_1l false
@[simp] theorem c65_1e : Rg c65_1 c65_1l false := rgE _ _
@[simp] def c65_2l : List EO := [m 4 3,
 m 5 0,
 o 6 .lenS [t 5],
 o 7 (.bin .lss) [t 4, t 6]]
def c65_2 : EC := .rg c65_2l false
@[simp] theorem c65_2e : Rg c65_2 c65_2l false := rgE _ _
def c65_3 : EC := .cd (t 7) .skip (.ex 0)
@[simp] theorem c65_3e : Cd c65_3 (t 7) .skip (.ex 0) := cdE _ _ _
def c65_4 : EC := .sq c65_2 c65_3
@[simp] theorem c65_4e : Sq c65_4 c65_2 c65_3 := sqE _ _
@[simp] def c65_5l : List EO := [m 10 0,
 m 11 3,
 o 12 .ixS [t 10, t 11],
 o 13 (.call 82) [t 12],
 o 14 (.un .not) [t 13],
 m 15 14,
 y 16 15 .mv [t 3],
 y 17 15 (.bin .eql) [t 16, i 0],
 y 18 15 .mv [t 17],
 n 19 18 .mv [t 0],
 n 20 18 .mv [t 3],
 n 21 18 .ixS [t 19, t 20],
 n 22 18 (.bin .neq) [t 21, c (.t (.int .u8 45))],
 n 23 18 .mv [t 22],
 y 24 23 .mv [t 0],
 y 25 23 .mv [t 3],
 y 26 23 .ixS [t 24, t 25],
 y 27 23 (.bin .lss) [t 26, c (.t (.int .u8 48))],
 y 28 23 .mv [t 27],
 n 29 28 .mv [t 0],
 n 30 28 .mv [t 3],
 n 31 28 .ixS [t 29, t 30],
 n 32 28 (.bin .gtr) [t 31, c (.t (.int .u8 57))],
 y 33 23 .pick [t 28, b true, t 32],
 n 34 18 .pick [t 23, t 33, b false],
 y 35 15 .pick [t 18, b true, t 34],
 o 36 .pick [t 15, t 35, b false]]
def c65_5 : EC := .rg c65_5l false
@[simp] theorem c65_5e : Rg c65_5 c65_5l false := rgE _ _
@[simp] def c65_6l : List EO := [o 2 .mv [b false]]
def c65_6 : EC := .rg c65_6l false
@[simp] theorem c65_6e : Rg c65_6 c65_6l false := rgE _ _
def c65_7 : EC := .sq c65_6 .rt
@[simp] theorem c65_7e : Sq c65_7 c65_6 .rt := sqE _ _
def c65_8 : EC := .cd (t 36) c65_7 .skip
@[simp] theorem c65_8e : Cd c65_8 (t 36) c65_7 .skip := cdE _ _ _
def c65_9 : EC := .sq c65_5 c65_8
@[simp] theorem c65_9e : Sq c65_9 c65_5 c65_8 := sqE _ _
def c65_10 : EC := .bk 1 c65_9
@[simp] theorem c65_10e : Bk c65_10 1 c65_9 := bkE _ _
@[simp] def c65_11l : List EO := [m 8 3,
 o 9 (.bin .add) [t 8, i 1],
 m 3 9]
def c65_11 : EC := .rg c65_11l false
@[simp] theorem c65_11e : Rg c65_11 c65_11l false := rgE _ _
def c65_12 : EC := .sq c65_10 c65_11
@[simp] theorem c65_12e : Sq c65_12 c65_10 c65_11 := sqE _ _
def c65_13 : EC := .sq c65_4 c65_12
@[simp] theorem c65_13e : Sq c65_13 c65_4 c65_12 := sqE _ _
def c65_14 : EC := .bk 0 (.lp c65_13)
@[simp] theorem c65_14e : Bk c65_14 0 (.lp c65_13) := bkE _ _
def c65_15 : EC := .sq c65_1 c65_14
@[simp] theorem c65_15e : Sq c65_15 c65_1 c65_14 := sqE _ _
@[simp] def c65_16l : List EO := [m 37 0,
 o 38 .lenS [t 37],
 o 39 (.bin .geq) [t 38, i 1],
 m 40 39,
 y 41 40 .mv [t 0],
 y 42 40 .lenS [t 41],
 y 43 40 (.bin .leq) [t 42, i 16],
 o 44 .pick [t 40, t 43, b false],
 m 2 44]
def c65_16 : EC := .rg c65_16l false
@[simp] theorem c65_16e : Rg c65_16 c65_16l false := rgE _ _
def c65_17 : EC := .sq c65_16 .rt
@[simp] theorem c65_17e : Sq c65_17 c65_16 .rt := sqE _ _
def c65_18 : EC := .sq c65_15 c65_17
@[simp] theorem c65_18e : Sq c65_18 c65_15 c65_17 := sqE _ _
def c65_19 : EC := .sq c65_0 c65_18
@[simp] theorem c65_19e : Sq c65_19 c65_0 c65_18 := sqE _ _
def c_tallystoneref10_Name_65 : EC := c65_19
theorem k_65 : ecF Try.prog 65 = some (45, c_tallystoneref10_Name_65, [.tm 2]) := by kernel_rfl

/-- tallystone/tallystoneref09.Valid -/
@[simp] def c66_0l : List EO := [o 2 .box [t 0],
 o 4 .mv [b false]]
def c66_0 : EC := .rg c66_0l false
@[simp] theorem c66_0e : Rg c66_0 c66_0l false := rgE _ _
@[simp] def c66_1l : List EO := [m 12 1,
 o 13 (.call 62) [t 12, b true],
 o 14 (.un .not) [t 13],
 m 15 14,
 n 16 15 (.faddr 2) [t 2],
 n 17 15 (.load 1 false) [t 16],
 n 18 15 (.call 62) [t 17, b false],
 n 19 15 (.un .not) [t 18],
 o 20 .pick [t 15, b true, t 19],
 m 21 20,
 n 22 21 (.faddr 3) [t 2],
 n 23 21 (.load 1 false) [t 22],
 n 24 21 .lenL [t 23],
 n 25 21 (.bin .gtr) [t 24, i 400],
 o 26 .pick [t 21, b true, t 25]]
def c66_1 : EC := .rg c66_1l false
@[simp] theorem c66_1e : Rg c66_1 c66_1l false := rgE _ _
@[simp] def c66_2l : List EO := [o 4 .mv [b false]]
def c66_2 : EC := .rg c66_2l false
@[simp] theorem c66_2e : Rg c66_2 c66_2l false := rgE _ _
def c66_3 : EC := .sq c66_2 .rt
@[simp] theorem c66_3e : Sq c66_3 c66_2 .rt := sqE _ _
def c66_4 : EC := .cd (t 26) c66_3 .skip
@[simp] theorem c66_4e : Cd c66_4 (t 26) c66_3 .skip := cdE _ _ _
def c66_5 : EC := .sq c66_1 c66_4
@[simp] theorem c66_5e : Sq c66_5 c66_1 c66_4 := sqE _ _
@[simp] def c66_6l : List EO := [o 5 .mv [i 0]]
def c66_6 : EC := .rg c66_6l false
@[simp] theorem c66_6e : Rg c66_6 c66_6l false := rgE _ _
@[simp] def c66_7l : List EO := [m 27 5,
 o 28 (.faddr 3) [t 2],
 o 29 (.load 1 false) [t 28],
 o 30 .lenL [t 29],
 o 31 (.bin .lss) [t 27, t 30]]
def c66_7 : EC := .rg c66_7l false
@[simp] theorem c66_7e : Rg c66_7 c66_7l false := rgE _ _
def c66_8 : EC := .cd (t 31) .skip (.ex 0)
@[simp] theorem c66_8e : Cd c66_8 (t 31) .skip (.ex 0) := cdE _ _ _
def c66_9 : EC := .sq c66_7 c66_8
@[simp] theorem c66_9e : Sq c66_9 c66_7 c66_8 := sqE _ _
@[simp] def c66_10l : List EO := [o 34 (.faddr 3) [t 2],
 o 35 (.load 1 false) [t 34],
 m 36 5,
 o 37 (.iaS 3) [t 35, t 36],
 o 38 (.load 3 true) [t 37],
 o 6 (.alloc [.t (.int .i64 0), .t (.int .i64 0), .t (.int .i64 0)]) [],
 u (.store 3) [t 6, t 38]]
def c66_10 : EC := .rg c66_10l false
@[simp] theorem c66_10e : Rg c66_10 c66_10l false := rgE _ _
@[simp] def c66_11l : List EO := [o 40 (.faddr 2) [t 2],
 o 41 (.load 1 false) [t 40],
 o 42 (.faddr 0) [t 6],
 o 43 (.load 1 false) [t 42],
 o 44 (.call 50) [t 41, t 43],
 m 39 44,
 o 45 (.ext 0) [t 39],
 o 46 (.ext 1) [t 39],
 o 7 (.alloc [.t (.int .i64 0), .t (.int .i64 0), .t (.int .i64 0), .t (.int .i64 0)]) [],
 u (.store 4) [t 7, t 45],
 m 8 46]
def c66_11 : EC := .rg c66_11l false
@[simp] theorem c66_11e : Rg c66_11 c66_11l false := rgE _ _
@[simp] def c66_12l : List EO := [m 48 1,
 o 49 (.faddr 1) [t 6],
 o 50 (.load 1 false) [t 49],
 o 51 (.call 50) [t 48, t 50],
 m 47 51,
 o 52 (.ext 0) [t 47],
 o 53 (.ext 1) [t 47],
 o 9 (.alloc [.t (.int .i64 0), .t (.int .i64 0), .t (.int .i64 0), .t (.int .i64 0)]) [],
 u (.store 4) [t 9, t 52],
 m 10 53]
def c66_12 : EC := .rg c66_12l false
@[simp] theorem c66_12e : Rg c66_12 c66_12l false := rgE _ _
@[simp] def c66_13l : List EO := [m 54 8,
 o 55 (.un .not) [t 54],
 m 56 55,
 n 57 56 .mv [t 10],
 n 58 56 (.un .not) [t 57],
 o 59 .pick [t 56, b true, t 58],
 m 60 59,
 n 61 60 (.faddr 1) [t 7],
 n 62 60 (.load 1 false) [t 61],
 n 63 60 (.faddr 1) [t 9],
 n 64 60 (.load 1 false) [t 63],
 n 65 60 (.bin .neq) [t 62, t 64],
 o 66 .pick [t 60, b true, t 65],
 m 67 66,
 n 68 67 (.faddr 2) [t 6],
 n 69 67 (.load 1 false) [t 68],
 n 70 67 (.call 69) [t 69],
 n 71 67 (.un .not) [t 70],
 o 72 .pick [t 67, b true, t 71]]
def c66_13 : EC := .rg c66_13l false
@[simp] theorem c66_13e : Rg c66_13 c66_13l false := rgE _ _
@[simp] def c66_14l : List EO := [o 4 .mv [b false]]
def c66_14 : EC := .rg c66_14l false
@[simp] theorem c66_14e : Rg c66_14 c66_14l false := rgE _ _
def c66_15 : EC := .sq c66_14 .rt
@[simp] theorem c66_15e : Sq c66_15 c66_14 .rt := sqE _ _
def c66_16 : EC := .cd (t 72) c66_15 .skip
@[simp] theorem c66_16e : Cd c66_16 (t 72) c66_15 .skip := cdE _ _ _
def c66_17 : EC := .sq c66_13 c66_16
@[simp] theorem c66_17e : Sq c66_17 c66_13 c66_16 := sqE _ _
@[simp] def c66_18l : List EO := [o 11 .mv [i 0]]
def c66_18 : EC := .rg c66_18l false
@[simp] theorem c66_18e : Rg c66_18 c66_18l false := rgE _ _
@[simp] def c66_19l : List EO := [m 73 11,
 m 74 5,
 o 75 (.bin .lss) [t 73, t 74]]
def c66_19 : EC := .rg c66_19l false
@[simp] theorem c66_19e : Rg c66_19 c66_19l false := rgE _ _
def c66_20 : EC := .cd (t 75) .skip (.ex 2)
@[simp] theorem c66_20e : Cd c66_20 (t 75) .skip (.ex 2) := cdE _ _ _
def c66_21 : EC := .sq c66_19 c66_20
@[simp] theorem c66_21e : Sq c66_21 c66_19 c66_20 := sqE _ _
@[simp] def c66_22l : List EO := [o 78 (.faddr 3) [t 2],
 o 79 (.load 1 false) [t 78],
 m 80 11,
 o 81 (.iaS 3) [t 79, t 80],
 o 82 (.faddr 0) [t 81],
 o 83 (.load 1 false) [t 82],
 o 84 (.faddr 0) [t 6],
 o 85 (.load 1 false) [t 84],
 o 86 (.bin .eql) [t 83, t 85],
 m 87 86,
 y 88 87 (.faddr 3) [t 2],
 y 89 87 (.load 1 false) [t 88],
 y 90 87 .mv [t 11],
 y 91 87 (.iaS 3) [t 89, t 90],
 y 92 87 (.faddr 2) [t 91],
 y 93 87 (.load 1 false) [t 92],
 y 94 87 (.faddr 2) [t 6],
 y 95 87 (.load 1 false) [t 94],
 y 96 87 (.bin .eql) [t 93, t 95],
 o 97 .pick [t 87, t 96, b false]]
def c66_22 : EC := .rg c66_22l true
@[simp] theorem c66_22e : Rg c66_22 c66_22l true := rgE _ _
@[simp] def c66_23l : List EO := [o 4 .mv [b false]]
def c66_23 : EC := .rg c66_23l false
@[simp] theorem c66_23e : Rg c66_23 c66_23l false := rgE _ _
def c66_24 : EC := .sq c66_23 .rt
@[simp] theorem c66_24e : Sq c66_24 c66_23 .rt := sqE _ _
def c66_25 : EC := .cd (t 97) c66_24 .skip
@[simp] theorem c66_25e : Cd c66_25 (t 97) c66_24 .skip := cdE _ _ _
def c66_26 : EC := .sq c66_22 c66_25
@[simp] theorem c66_26e : Sq c66_26 c66_22 c66_25 := sqE _ _
def c66_27 : EC := .bk 3 c66_26
@[simp] theorem c66_27e : Bk c66_27 3 c66_26 := bkE _ _
@[simp] def c66_28l : List EO := [m 76 11,
 o 77 (.bin .add) [t 76, i 1],
 m 11 77]
def c66_28 : EC := .rg c66_28l false
@[simp] theorem c66_28e : Rg c66_28 c66_28l false := rgE _ _
def c66_29 : EC := .sq c66_27 c66_28
@[simp] theorem c66_29e : Sq c66_29 c66_27 c66_28 := sqE _ _
def c66_30 : EC := .sq c66_21 c66_29
@[simp] theorem c66_30e : Sq c66_30 c66_21 c66_29 := sqE _ _
def c66_31 : EC := .bk 2 (.lp c66_30)
@[simp] theorem c66_31e : Bk c66_31 2 (.lp c66_30) := bkE _ _
def c66_32 : EC := .sq c66_18 c66_31
@[simp] theorem c66_32e : Sq c66_32 c66_18 c66_31 := sqE _ _
def c66_33 : EC := .sq c66_17 c66_32
@[simp] theorem c66_33e : Sq c66_33 c66_17 c66_32 := sqE _ _
def c66_34 : EC := .sq c66_12 c66_33
@[simp] theorem c66_34e : Sq c66_34 c66_12 c66_33 := sqE _ _
def c66_35 : EC := .sq c66_11 c66_34
@[simp] theorem c66_35e : Sq c66_35 c66_11 c66_34 := sqE _ _
def c66_36 : EC := .sq c66_10 c66_35
@[simp] theorem c66_36e : Sq c66_36 c66_10 c66_35 := sqE _ _
def c66_37 : EC := .bk 1 c66_36
@[simp] theorem c66_37e : Bk c66_37 1 c66_36 := bkE _ _
@[simp] def c66_38l : List EO := [m 32 5,
 o 33 (.bin .add) [t 32, i 1],
 m 5 33]
def c66_38 : EC := .rg c66_38l false
@[simp] theorem c66_38e : Rg c66_38 c66_38l false := rgE _ _
def c66_39 : EC := .sq c66_37 c66_38
@[simp] theorem c66_39e : Sq c66_39 c66_37 c66_38 := sqE _ _
def c66_40 : EC := .sq c66_9 c66_39
@[simp] theorem c66_40e : Sq c66_40 c66_9 c66_39 := sqE _ _
def c66_41 : EC := .bk 0 (.lp c66_40)
@[simp] theorem c66_41e : Bk c66_41 0 (.lp c66_40) := bkE _ _
def c66_42 : EC := .sq c66_6 c66_41
@[simp] theorem c66_42e : Sq c66_42 c66_6 c66_41 := sqE _ _
@[simp] def c66_43l : List EO := [o 4 .mv [b true]]
def c66_43 : EC := .rg c66_43l false
@[simp] theorem c66_43e : Rg c66_43 c66_43l false := rgE _ _
def c66_44 : EC := .sq c66_43 .rt
@[simp] theorem c66_44e : Sq c66_44 c66_43 .rt := sqE _ _
def c66_45 : EC := .sq c66_42 c66_44
@[simp] theorem c66_45e : Sq c66_45 c66_42 c66_44 := sqE _ _
def c66_46 : EC := .sq c66_5 c66_45
@[simp] theorem c66_46e : Sq c66_46 c66_5 c66_45 := sqE _ _
def c66_47 : EC := .sq c66_0 c66_46
@[simp] theorem c66_47e : Sq c66_47 c66_0 c66_46 := sqE _ _
def c_tallystoneref09_Valid_66 : EC := c66_47
theorem k_66 : ecF Try.prog 66 = some (98, c_tallystoneref09_Valid_66, [.tm 4]) := by kernel_rfl

/-- tallystone/tallystoneref06.Of -/
@[simp] def c67_0l : List EO := [o 6 .mv [i 0],
 o 7 .mv [i 0]]
def c67_0 : EC := .rg c67_0l false
@[simp] theorem c67_0e : Rg c67_0 c67_0l false := rgE _ _
@[simp] def c67_1l : List EO := [m 11 2,
 o 12 (.bin .lss) [t 11, i 1],
 m 13 12,
 n 14 13 .mv [t 2],
 n 15 13 .mv [t 0],
 n 16 13 .mv [t 1],
 n 17 13 (.call 48) [t 15, t 16],
 n 18 13 (.bin .gtr) [t 14, t 17],
 o 19 .pick [t 13, b true, t 18]]
def c67_1 : EC := .rg c67_1l false
@[simp] theorem c67_1e : Rg c67_1 c67_1l false := rgE _ _
@[simp] def c67_2l : List EO := [o 6 .mv [i 0],
 o 7 .mv [i 2]]
def c67_2 : EC := .rg c67_2l false
@[simp] theorem c67_2e : Rg c67_2 c67_2l false := rgE _ _
def c67_3 : EC := .sq c67_2 .rt
@[simp] theorem c67_3e : Sq c67_3 c67_2 .rt := sqE _ _
def c67_4 : EC := .cd (t 19) c67_3 .skip
@[simp] theorem c67_4e : Cd c67_4 (t 19) c67_3 .skip := cdE _ _ _
def c67_5 : EC := .sq c67_1 c67_4
@[simp] theorem c67_5e : Sq c67_5 c67_1 c67_4 := sqE _ _
@[simp] def c67_6l : List EO := [o 8 .mv [i (-25567)]]
def c67_6 : EC := .rg c67_6l false
@[simp] theorem c67_6e : Rg c67_6 c67_6l false := rgE _ _
@[simp] def c67_7l : List EO := [o 9 .mv [i 1900]]
def c67_7 : EC := .rg c67_7l false
@[simp] theorem c67_7e : Rg c67_7 c67_7l false := rgE _ _
@[simp] def c67_8l : List EO := [m 20 9,
 m 21 0,
 o 22 (.bin .lss) [t 20, t 21]]
def c67_8 : EC := .rg c67_8l false
@[simp] theorem c67_8e : Rg c67_8 c67_8l false := rgE _ _
def c67_9 : EC := .cd (t 22) .skip (.ex 0)
@[simp] theorem c67_9e : Cd c67_9 (t 22) .skip (.ex 0) := cdE _ _ _
def c67_10 : EC := .sq c67_8 c67_9
@[simp] theorem c67_10e : Sq c67_10 c67_8 c67_9 := sqE _ _
@[simp] def c67_11l : List EO := [m 25 8,
 o 26 (.bin .add) [t 25, i 365],
 m 8 26]
def c67_11 : EC := .rg c67_11l false
@[simp] theorem c67_11e : Rg c67_11 c67_11l false := rgE _ _
@[simp] def c67_12l : List EO := [m 27 9,
 o 28 (.call 70) [t 27]]
def c67_12 : EC := .rg c67_12l false
@[simp] theorem c67_12e : Rg c67_12 c67_12l false := rgE _ _
@[simp] def c67_13l : List EO := [m 29 8,
 o 30 (.bin .add) [t 29, i 1],
 m 8 30]
def c67_13 : EC := .rg c67_13l false
@[simp] theorem c67_13e : Rg c67_13 c67_13l false := rgE _ _
def c67_14 : EC := .cd (t 28) c67_13 .skip
@[simp] theorem c67_14e : Cd c67_14 (t 28) c67_13 .skip := cdE _ _ _
def c67_15 : EC := .sq c67_12 c67_14
@[simp] theorem c67_15e : Sq c67_15 c67_12 c67_14 := sqE _ _
def c67_16 : EC := .sq c67_11 c67_15
@[simp] theorem c67_16e : Sq c67_16 c67_11 c67_15 := sqE _ _
def c67_17 : EC := .bk 1 c67_16
@[simp] theorem c67_17e : Bk c67_17 1 c67_16 := bkE _ _
@[simp] def c67_18l : List EO := [m 23 9,
 o 24 (.bin .add) [t 23, i 1],
 m 9 24]
def c67_18 : EC := .rg c67_18l false
@[simp] theorem c67_18e : Rg c67_18 c67_18l false := rgE _ _
def c67_19 : EC := .sq c67_17 c67_18
@[simp] theorem c67_19e : Sq c67_19 c67_17 c67_18 := sqE _ _
def c67_20 : EC := .sq c67_10 c67_19
@[simp] theorem c67_20e : Sq c67_20 c67_10 c67_19 := sqE _ _
def c67_21 : EC := .bk 0 (.lp c67_20)
@[simp] theorem c67_21e : Bk c67_21 0 (.lp c67_20) := bkE _ _
def c67_22 : EC := .sq c67_7 c67_21
@[simp] theorem c67_22e : Sq c67_22 c67_7 c67_21 := sqE _ _
@[simp] def c67_23l : List EO := [o 10 .mv [i 1]]
def c67_23 : EC := .rg c67_23l false
@[simp] theorem c67_23e : Rg c67_23 c67_23l false := rgE _ _
@[simp] def c67_24l : List EO := [m 31 10,
 m 32 1,
 o 33 (.bin .lss) [t 31, t 32]]
def c67_24 : EC := .rg c67_24l false
@[simp] theorem c67_24e : Rg c67_24 c67_24l false := rgE _ _
def c67_25 : EC := .cd (t 33) .skip (.ex 2)
@[simp] theorem c67_25e : Cd c67_25 (t 33) .skip (.ex 2) := cdE _ _ _
def c67_26 : EC := .sq c67_24 c67_25
@[simp] theorem c67_26e : Sq c67_26 c67_24 c67_25 := sqE _ _
@[simp] def c67_27l : List EO := [m 36 8,
 m 37 0,
 m 38 10,
 o 39 (.call 48) [t 37, t 38],
 o 40 (.bin .add) [t 36, t 39],
 m 8 40]
def c67_27 : EC := .rg c67_27l false
@[simp] theorem c67_27e : Rg c67_27 c67_27l false := rgE _ _
def c67_28 : EC := .bk 3 c67_27
@[simp] theorem c67_28e : Bk c67_28 3 c67_27 := bkE _ _
@[simp] def c67_29l : List EO := [m 34 10,
 o 35 (.bin .add) [t 34, i 1],
 m 10 35]
def c67_29 : EC := .rg c67_29l false
@[simp] theorem c67_29e : Rg c67_29 c67_29l false := rgE _ _
def c67_30 : EC := .sq c67_28 c67_29
@[simp] theorem c67_30e : Sq c67_30 c67_28 c67_29 := sqE _ _
def c67_31 : EC := .sq c67_26 c67_30
@[simp] theorem c67_31e : Sq c67_31 c67_26 c67_30 := sqE _ _
def c67_32 : EC := .bk 2 (.lp c67_31)
@[simp] theorem c67_32e : Bk c67_32 2 (.lp c67_31) := bkE _ _
def c67_33 : EC := .sq c67_23 c67_32
@[simp] theorem c67_33e : Sq c67_33 c67_23 c67_32 := sqE _ _
@[simp] def c67_34l : List EO := [m 41 8,
 m 42 2,
 o 43 (.bin .add) [t 41, t 42],
 o 44 (.bin .sub) [t 43, i 1],
 m 6 44,
 o 7 .mv [i 0]]
def c67_34 : EC := .rg c67_34l false
@[simp] theorem c67_34e : Rg c67_34 c67_34l false := rgE _ _
def c67_35 : EC := .sq c67_34 .rt
@[simp] theorem c67_35e : Sq c67_35 c67_34 .rt := sqE _ _
def c67_36 : EC := .sq c67_33 c67_35
@[simp] theorem c67_36e : Sq c67_36 c67_33 c67_35 := sqE _ _
def c67_37 : EC := .sq c67_22 c67_36
@[simp] theorem c67_37e : Sq c67_37 c67_22 c67_36 := sqE _ _
def c67_38 : EC := .sq c67_6 c67_37
@[simp] theorem c67_38e : Sq c67_38 c67_6 c67_37 := sqE _ _
def c67_39 : EC := .sq c67_5 c67_38
@[simp] theorem c67_39e : Sq c67_39 c67_5 c67_38 := sqE _ _
def c67_40 : EC := .sq c67_0 c67_39
@[simp] theorem c67_40e : Sq c67_40 c67_0 c67_39 := sqE _ _
def c_tallystoneref06_Of_67 : EC := c67_40
theorem k_67 : ecF Try.prog 67 = some (45, c_tallystoneref06_Of_67, [.tm 6, .tm 7]) := by kernel_rfl

/-- tallystone/tallystoneref06.Add -/
@[simp] def c68_0l : List EO := [o 4 .mv [i 0],
 o 5 .mv [i 0]]
def c68_0 : EC := .rg c68_0l false
@[simp] theorem c68_0e : Rg c68_0 c68_0l false := rgE _ _
@[simp] def c68_1l : List EO := [m 12 0,
 o 13 (.call 47) [t 12],
 m 11 13,
 o 14 (.ext 0) [t 11],
 o 15 (.ext 1) [t 11],
 o 16 (.ext 2) [t 11],
 o 17 (.ext 3) [t 11],
 m 6 14,
 m 7 15,
 m 8 16,
 m 9 17]
def c68_1 : EC := .rg c68_1l false
@[simp] theorem c68_1e : Rg c68_1 c68_1l false := rgE _ _
@[simp] def c68_2l : List EO := [m 18 9,
 o 19 (.bin .neq) [t 18, i 0],
 m 20 19,
 n 21 20 .mv [t 1],
 n 22 20 (.bin .lss) [t 21, i (-3600)],
 o 23 .pick [t 20, b true, t 22],
 m 24 23,
 n 25 24 .mv [t 1],
 n 26 24 (.bin .gtr) [t 25, i 3600],
 o 27 .pick [t 24, b true, t 26]]
def c68_2 : EC := .rg c68_2l false
@[simp] theorem c68_2e : Rg c68_2 c68_2l false := rgE _ _
@[simp] def c68_3l : List EO := [o 4 .mv [i 0],
 o 5 .mv [i 2]]
def c68_3 : EC := .rg c68_3l false
@[simp] theorem c68_3e : Rg c68_3 c68_3l false := rgE _ _
def c68_4 : EC := .sq c68_3 .rt
@[simp] theorem c68_4e : Sq c68_4 c68_3 .rt := sqE _ _
def c68_5 : EC := .cd (t 27) c68_4 .skip
@[simp] theorem c68_5e : Cd c68_5 (t 27) c68_4 .skip := cdE _ _ _
def c68_6 : EC := .sq c68_2 c68_5
@[simp] theorem c68_6e : Sq c68_6 c68_2 c68_5 := sqE _ _
@[simp] def c68_7l : List EO := [m 28 6,
 o 29 (.bin .mul) [i 12, t 28],
 m 30 7,
 o 31 (.bin .add) [t 29, t 30],
 o 32 (.bin .sub) [t 31, i 1],
 m 33 1,
 o 34 (.bin .add) [t 32, t 33],
 m 10 34]
def c68_7 : EC := .rg c68_7l false
@[simp] theorem c68_7e : Rg c68_7 c68_7l false := rgE _ _
@[simp] def c68_8l : List EO := [m 35 10,
 o 36 (.bin .quo) [t 35, i 12],
 m 37 10,
 o 38 (.bin .rem) [t 37, i 12],
 o 39 (.bin .add) [t 38, i 1],
 m 6 36,
 m 7 39]
def c68_8 : EC := .rg c68_8l false
@[simp] theorem c68_8e : Rg c68_8 c68_8l false := rgE _ _
@[simp] def c68_9l : List EO := [m 40 6,
 o 41 (.bin .lss) [t 40, i 1900],
 m 42 41,
 n 43 42 .mv [t 6],
 n 44 42 (.bin .gtr) [t 43, i 2199],
 o 45 .pick [t 42, b true, t 44]]
def c68_9 : EC := .rg c68_9l false
@[simp] theorem c68_9e : Rg c68_9 c68_9l false := rgE _ _
@[simp] def c68_10l : List EO := [o 4 .mv [i 0],
 o 5 .mv [i 2]]
def c68_10 : EC := .rg c68_10l false
@[simp] theorem c68_10e : Rg c68_10 c68_10l false := rgE _ _
def c68_11 : EC := .sq c68_10 .rt
@[simp] theorem c68_11e : Sq c68_11 c68_10 .rt := sqE _ _
def c68_12 : EC := .cd (t 45) c68_11 .skip
@[simp] theorem c68_12e : Cd c68_12 (t 45) c68_11 .skip := cdE _ _ _
def c68_13 : EC := .sq c68_9 c68_12
@[simp] theorem c68_13e : Sq c68_13 c68_9 c68_12 := sqE _ _
@[simp] def c68_14l : List EO := [m 46 6,
 m 47 7,
 m 48 8,
 m 49 6,
 m 50 7,
 o 51 (.call 48) [t 49, t 50],
 o 52 (.mm false) [t 48, t 51],
 o 53 (.call 67) [t 46, t 47, t 52],
 o 54 (.ext 0) [t 53],
 o 55 (.ext 1) [t 53],
 m 4 54,
 m 5 55]
def c68_14 : EC := .rg c68_14l false
@[simp] theorem c68_14e : Rg c68_14 c68_14l false := rgE _ _
def c68_15 : EC := .sq c68_14 .rt
@[simp] theorem c68_15e : Sq c68_15 c68_14 .rt := sqE _ _
def c68_16 : EC := .sq c68_13 c68_15
@[simp] theorem c68_16e : Sq c68_16 c68_13 c68_15 := sqE _ _
def c68_17 : EC := .sq c68_8 c68_16
@[simp] theorem c68_17e : Sq c68_17 c68_8 c68_16 := sqE _ _
def c68_18 : EC := .sq c68_7 c68_17
@[simp] theorem c68_18e : Sq c68_18 c68_7 c68_17 := sqE _ _
def c68_19 : EC := .sq c68_6 c68_18
@[simp] theorem c68_19e : Sq c68_19 c68_6 c68_18 := sqE _ _
def c68_20 : EC := .sq c68_1 c68_19
@[simp] theorem c68_20e : Sq c68_20 c68_1 c68_19 := sqE _ _
def c68_21 : EC := .sq c68_0 c68_20
@[simp] theorem c68_21e : Sq c68_21 c68_0 c68_20 := sqE _ _
def c_tallystoneref06_Add_68 : EC := c68_21
theorem k_68 : ecF Try.prog 68 = some (56, c_tallystoneref06_Add_68, [.tm 4, .tm 5]) := by kernel_rfl

/-- tallystone/tallystoneref06.Valid -/
@[simp] def c69_0l : List EO := [o 2 .mv [b false]]
def c69_0 : EC := .rg c69_0l false
@[simp] theorem c69_0e : Rg c69_0 c69_0l false := rgE _ _
@[simp] def c69_1l : List EO := [m 3 0,
 o 4 (.bin .geq) [t 3, i (-25567)],
 m 5 4,
 y 6 5 .mv [t 0],
 y 7 5 (.bin .leq) [t 6, i 84005],
 o 8 .pick [t 5, t 7, b false],
 m 2 8]
def c69_1 : EC := .rg c69_1l false
@[simp] theorem c69_1e : Rg c69_1 c69_1l false := rgE _ _
def c69_2 : EC := .sq c69_1 .rt
@[simp] theorem c69_2e : Sq c69_2 c69_1 .rt := sqE _ _
def c69_3 : EC := .sq c69_0 c69_2
@[simp] theorem c69_3e : Sq c69_3 c69_0 c69_2 := sqE _ _
def c_tallystoneref06_Valid_69 : EC := c69_3
theorem k_69 : ecF Try.prog 69 = some (9, c_tallystoneref06_Valid_69, [.tm 2]) := by kernel_rfl

/-- tallystone/tallystoneref06.leap -/
@[simp] def c70_0l : List EO := [o 2 .mv [b false]]
def c70_0 : EC := .rg c70_0l false
@[simp] theorem c70_0e : Rg c70_0 c70_0l false := rgE _ _
@[simp] def c70_1l : List EO := [m 3 0,
 o 4 (.bin .rem) [t 3, i 4],
 o 5 (.bin .eql) [t 4, i 0],
 m 6 5,
 y 7 6 .mv [t 0],
 y 8 6 (.bin .rem) [t 7, i 100],
 y 9 6 (.bin .neq) [t 8, i 0],
 y 10 6 .mv [t 9],
 n 11 10 .mv [t 0],
 n 12 10 (.bin .rem) [t 11, i 400],
 n 13 10 (.bin .eql) [t 12, i 0],
 y 14 6 .pick [t 10, b true, t 13],
 o 15 .pick [t 6, t 14, b false],
 m 2 15]
def c70_1 : EC := .rg c70_1l false
@[simp] theorem c70_1e : Rg c70_1 c70_1l false := rgE _ _
def c70_2 : EC := .sq c70_1 .rt
@[simp] theorem c70_2e : Sq c70_2 c70_1 .rt := sqE _ _
def c70_3 : EC := .sq c70_0 c70_2
@[simp] theorem c70_3e : Sq c70_3 c70_0 c70_2 := sqE _ _
def c_tallystoneref06_leap_70 : EC := c70_3
theorem k_70 : ecF Try.prog 70 = some (16, c_tallystoneref06_leap_70, [.tm 2]) := by kernel_rfl

/-- tallystone/group.account -/
@[simp] def c71_0l : List EO := [o 8 (.alloc [.t (.int .i64 0), .t (.int .i64 0), .t (.int .i64 0), .t (.int .i64 0)]) []]
def c71_0 : EC := .rg c71_0l false
@[simp] theorem c71_0e : Rg c71_0 c71_0l false := rgE _ _
@[simp] def c71_1l : List EO := [m 9 0,
 m 10 1,
 m 11 2,
 m 12 3,
 o 13 (.build [.t (.int .i64 0), .t (.int .i64 0), .t (.int .i64 0), .t (.int .i64 0)] [(0, 1), (1, 1), (2, 1), (3, 1)]) [t 9, t 10, t 11, t 12],
 u (.store 4) [t 8, t 13]]
def c71_1 : EC := .rg c71_1l false
@[simp] theorem c71_1e : Rg c71_1 c71_1l false := rgE _ _
def c71_2 : EC := .sq c71_1 .rt
@[simp] theorem c71_2e : Sq c71_2 c71_1 .rt := sqE _ _
def c71_3 : EC := .sq c71_0 c71_2
@[simp] theorem c71_3e : Sq c71_3 c71_0 c71_2 := sqE _ _
def c_group_account_71 : EC := c71_3
theorem k_71 : ecF Try.prog 71 = some (14, c_group_account_71, [.ce 8 4 true]) := by kernel_rfl

/-- tallystone/group.currency -/
@[simp] def c72_0l : List EO := [o 2 .mv [b false]]
def c72_0 : EC := .rg c72_0l false
@[simp] theorem c72_0e : Rg c72_0 c72_0l false := rgE _ _
@[simp] def c72_1l : List EO := [m 4 0,
 o 5 .lenS [t 4],
 o 6 .mv [i 0]]
def c72_1 : EC := .rg c72_1l false
@[simp] theorem c72_1e : Rg c72_1 c72_1l false := rgE _ _
@[simp] def c72_2l : List EO := [o 7 (.bin .lss) [t 6, t 5]]
def c72_2 : EC := .rg c72_2l false
@[simp] theorem c72_2e : Rg c72_2 c72_2l false := rgE _ _
def c72_3 : EC := .cd (t 7) .skip (.ex 0)
@[simp] theorem c72_3e : Cd c72_3 (t 7) .skip (.ex 0) := cdE _ _ _
@[simp] def c72_4l : List EO := [m 8 6,
 m 3 8]
def c72_4 : EC := .rg c72_4l false
@[simp] theorem c72_4e : Rg c72_4 c72_4l false := rgE _ _
@[simp] def c72_5l : List EO := [m 9 0,
 m 10 3,
 o 11 .ixS [t 9, t 10],
 o 12 (.bin .lss) [t 11, c (.t (.int .u8 65))],
 m 13 12,
 n 14 13 .mv [t 0],
 n 15 13 .mv [t 3],
 n 16 13 .ixS [t 14, t 15],
 n 17 13 (.bin .gtr) [t 16, c (.t (.int .u8 90))],
 o 18 .pick [t 13, b true, t 17]]
def c72_5 : EC := .rg c72_5l false
@[simp] theorem c72_5e : Rg c72_5 c72_5l false := rgE _ _
@[simp] def c72_6l : List EO := [o 2 .mv [b false]]
def c72_6 : EC := .rg c72_6l false
@[simp] theorem c72_6e : Rg c72_6 c72_6l false := rgE _ _
def c72_7 : EC := .sq c72_6 .rt
@[simp] theorem c72_7e : Sq c72_7 c72_6 .rt := sqE _ _
def c72_8 : EC := .cd (t 18) c72_7 .skip
@[simp] theorem c72_8e : Cd c72_8 (t 18) c72_7 .skip := cdE _ _ _
def c72_9 : EC := .sq c72_5 c72_8
@[simp] theorem c72_9e : Sq c72_9 c72_5 c72_8 := sqE _ _
def c72_10 : EC := .sq c72_4 c72_9
@[simp] theorem c72_10e : Sq c72_10 c72_4 c72_9 := sqE _ _
def c72_11 : EC := .bk 1 c72_10
@[simp] theorem c72_11e : Bk c72_11 1 c72_10 := bkE _ _
@[simp] def c72_12l : List EO := [o 19 (.bin .add) [t 6, i 1],
 m 6 19]
def c72_12 : EC := .rg c72_12l false
@[simp] theorem c72_12e : Rg c72_12 c72_12l false := rgE _ _
def c72_13 : EC := .sq c72_11 c72_12
@[simp] theorem c72_13e : Sq c72_13 c72_11 c72_12 := sqE _ _
def c72_14 : EC := .sq c72_3 c72_13
@[simp] theorem c72_14e : Sq c72_14 c72_3 c72_13 := sqE _ _
def c72_15 : EC := .sq c72_2 c72_14
@[simp] theorem c72_15e : Sq c72_15 c72_2 c72_14 := sqE _ _
def c72_16 : EC := .bk 0 (.lp c72_15)
@[simp] theorem c72_16e : Bk c72_16 0 (.lp c72_15) := bkE _ _
def c72_17 : EC := .sq c72_1 c72_16
@[simp] theorem c72_17e : Sq c72_17 c72_1 c72_16 := sqE _ _
@[simp] def c72_18l : List EO := [m 20 0,
 o 21 .lenS [t 20],
 o 22 (.bin .eql) [t 21, i 3],
 m 2 22]
def c72_18 : EC := .rg c72_18l false
@[simp] theorem c72_18e : Rg c72_18 c72_18l false := rgE _ _
def c72_19 : EC := .sq c72_18 .rt
@[simp] theorem c72_19e : Sq c72_19 c72_18 .rt := sqE _ _
def c72_20 : EC := .sq c72_17 c72_19
@[simp] theorem c72_20e : Sq c72_20 c72_17 c72_19 := sqE _ _
def c72_21 : EC := .sq c72_0 c72_20
@[simp] theorem c72_21e : Sq c72_21 c72_0 c72_20 := sqE _ _
def c_group_currency_72 : EC := c72_21
theorem k_72 : ecF Try.prog 72 = some (23, c_group_currency_72, [.tm 2]) := by kernel_rfl

/-- tallystone/calendar.Valid -/
@[simp] def c73_0l : List EO := [o 1 .box [t 0],
 o 2 .mv [b false]]
def c73_0 : EC := .rg c73_0l false
@[simp] theorem c73_0e : Rg c73_0 c73_0l false := rgE _ _
@[simp] def c73_1l : List EO := [o 5 (.faddr 1) [t 1],
 o 6 (.load 1 false) [t 5],
 o 7 (.bin .lss) [t 6, i 1],
 m 8 7,
 n 9 8 (.faddr 1) [t 1],
 n 10 8 (.load 1 false) [t 9],
 n 11 8 (.bin .gtr) [t 10, i 12],
 o 12 .pick [t 8, b true, t 11],
 m 13 12,
 n 14 13 (.faddr 2) [t 1],
 n 15 13 (.load 1 false) [t 14],
 n 16 13 (.bin .lss) [t 15, i 1],
 o 17 .pick [t 13, b true, t 16],
 m 18 17,
 n 19 18 (.faddr 2) [t 1],
 n 20 18 (.load 1 false) [t 19],
 n 21 18 (.bin .gtr) [t 20, i 120],
 o 22 .pick [t 18, b true, t 21],
 m 23 22,
 n 24 23 (.faddr 0) [t 1],
 n 25 23 (.load 1 false) [t 24],
 n 26 23 (.bin .lss) [t 25, i 1900],
 o 27 .pick [t 23, b true, t 26],
 m 28 27,
 n 29 28 (.faddr 0) [t 1],
 n 30 28 (.load 1 false) [t 29],
 n 31 28 (.bin .gtr) [t 30, i 2199],
 o 32 .pick [t 28, b true, t 31]]
def c73_1 : EC := .rg c73_1l false
@[simp] theorem c73_1e : Rg c73_1 c73_1l false := rgE _ _
@[simp] def c73_2l : List EO := [o 2 .mv [b false]]
def c73_2 : EC := .rg c73_2l false
@[simp] theorem c73_2e : Rg c73_2 c73_2l false := rgE _ _
def c73_3 : EC := .sq c73_2 .rt
@[simp] theorem c73_3e : Sq c73_3 c73_2 .rt := sqE _ _
def c73_4 : EC := .cd (t 32) c73_3 .skip
@[simp] theorem c73_4e : Cd c73_4 (t 32) c73_3 .skip := cdE _ _ _
def c73_5 : EC := .sq c73_1 c73_4
@[simp] theorem c73_5e : Sq c73_5 c73_1 c73_4 := sqE _ _
@[simp] def c73_6l : List EO := [o 34 (.load 3 true) [t 1],
 o 35 (.faddr 2) [t 1],
 o 36 (.load 1 false) [t 35],
 o 37 (.bin .sub) [t 36, i 1],
 o 38 (.call 77) [t 34, t 37],
 m 33 38,
 o 39 (.ext 0) [t 33],
 o 40 (.ext 1) [t 33],
 m 3 39,
 m 4 40]
def c73_6 : EC := .rg c73_6l false
@[simp] theorem c73_6e : Rg c73_6 c73_6l false := rgE _ _
@[simp] def c73_7l : List EO := [m 41 4,
 o 42 (.bin .eql) [t 41, i 0],
 m 2 42]
def c73_7 : EC := .rg c73_7l false
@[simp] theorem c73_7e : Rg c73_7 c73_7l false := rgE _ _
def c73_8 : EC := .sq c73_7 .rt
@[simp] theorem c73_8e : Sq c73_8 c73_7 .rt := sqE _ _
def c73_9 : EC := .sq c73_6 c73_8
@[simp] theorem c73_9e : Sq c73_9 c73_6 c73_8 := sqE _ _
def c73_10 : EC := .sq c73_5 c73_9
@[simp] theorem c73_10e : Sq c73_10 c73_5 c73_9 := sqE _ _
def c73_11 : EC := .sq c73_0 c73_10
@[simp] theorem c73_11e : Sq c73_11 c73_0 c73_10 := sqE _ _
def c_calendar_Valid_73 : EC := c73_11
theorem k_73 : ecF Try.prog 73 = some (43, c_calendar_Valid_73, [.tm 2]) := by kernel_rfl

/-- tallystone/group.accounts -/
@[simp] def c74_0l : List EO := [o 1 .box [t 0],
 o 2 .mv [b false]]
def c74_0 : EC := .rg c74_0l false
@[simp] theorem c74_0e : Rg c74_0 c74_0l false := rgE _ _
@[simp] def c74_1l : List EO := [o 8 (.faddr 4) [t 1],
 o 9 (.load 1 false) [t 8],
 o 10 (.call 83) [t 9, b true],
 o 11 (.un .not) [t 10],
 m 12 11,
 n 13 12 (.faddr 4) [t 1],
 n 14 12 (.load 1 false) [t 13],
 n 15 12 (.call 84) [t 14, c (.fn (.func 85) [])],
 o 16 .pick [t 12, b true, t 15]]
def c74_1 : EC := .rg c74_1l false
@[simp] theorem c74_1e : Rg c74_1 c74_1l false := rgE _ _
@[simp] def c74_2l : List EO := [o 2 .mv [b false]]
def c74_2 : EC := .rg c74_2l false
@[simp] theorem c74_2e : Rg c74_2 c74_2l false := rgE _ _
def c74_3 : EC := .sq c74_2 .rt
@[simp] theorem c74_3e : Sq c74_3 c74_2 .rt := sqE _ _
def c74_4 : EC := .cd (t 16) c74_3 .skip
@[simp] theorem c74_4e : Cd c74_4 (t 16) c74_3 .skip := cdE _ _ _
def c74_5 : EC := .sq c74_1 c74_4
@[simp] theorem c74_5e : Sq c74_5 c74_1 c74_4 := sqE _ _
@[simp] def c74_6l : List EO := [o 17 .mkmap [],
 m 3 17]
def c74_6 : EC := .rg c74_6l false
@[simp] theorem c74_6e : Rg c74_6 c74_6l false := rgE _ _
@[simp] def c74_7l : List EO := [o 18 (.faddr 5) [t 1],
 o 19 (.load 15 true) [t 18],
 o 20 (.call 87) [t 19],
 o 21 .lenL [t 20],
 o 22 .mv [i 0]]
def c74_7 : EC := .rg c74_7l false
@[simp] theorem c74_7e : Rg c74_7 c74_7l false := rgE _ _
@[simp] def c74_8l : List EO := [o 23 (.bin .lss) [t 22, t 21]]
def c74_8 : EC := .rg c74_8l false
@[simp] theorem c74_8e : Rg c74_8 c74_8l false := rgE _ _
def c74_9 : EC := .cd (t 23) .skip (.ex 0)
@[simp] theorem c74_9e : Cd c74_9 (t 23) .skip (.ex 0) := cdE _ _ _
@[simp] def c74_10l : List EO := [o 24 (.iaS 5) [t 20, t 22],
 o 25 (.load 5 true) [t 24],
 o 5 (.alloc [.t (.str []), .t (.int .i64 0), .t (.int .i64 0), .t (.int .i64 0), .t (.bool false)]) [],
 u (.store 5) [t 5, t 25]]
def c74_10 : EC := .rg c74_10l false
@[simp] theorem c74_10e : Rg c74_10 c74_10l false := rgE _ _
@[simp] def c74_11l : List EO := [o 27 (.faddr 4) [t 1],
 o 28 (.load 1 false) [t 27],
 o 29 (.faddr 1) [t 5],
 o 30 (.load 1 false) [t 29],
 o 31 (.call 88) [t 28, t 30],
 m 26 31,
 o 32 (.ext 0) [t 26],
 o 33 (.ext 1) [t 26],
 o 6 (.alloc [.t (.int .i64 0), .t (.int .i64 0), .t (.int .i64 0), .t (.int .i64 0)]) [],
 u (.store 4) [t 6, t 32],
 m 7 33]
def c74_11 : EC := .rg c74_11l false
@[simp] theorem c74_11e : Rg c74_11 c74_11l false := rgE _ _
@[simp] def c74_12l : List EO := [m 34 7,
 o 35 (.un .not) [t 34],
 m 36 35,
 n 37 36 .mv [t 3],
 n 38 36 (.faddr 1) [t 5],
 n 39 36 (.load 1 false) [t 38],
 n 40 36 (.lkp false [1] false false [.t (.bool false)]) [t 37, t 39],
 o 41 .pick [t 36, b true, t 40],
 m 42 41,
 n 43 42 (.faddr 1) [t 6],
 n 44 42 (.load 1 false) [t 43],
 n 45 42 (.faddr 2) [t 5],
 n 46 42 (.load 1 false) [t 45],
 n 47 42 (.bin .neq) [t 44, t 46],
 o 48 .pick [t 42, b true, t 47],
 m 49 48,
 n 50 49 (.faddr 2) [t 6],
 n 51 49 (.load 1 false) [t 50],
 n 52 49 (.faddr 3) [t 5],
 n 53 49 (.load 1 false) [t 52],
 n 54 49 (.bin .neq) [t 51, t 53],
 o 55 .pick [t 49, b true, t 54]]
def c74_12 : EC := .rg c74_12l false
@[simp] theorem c74_12e : Rg c74_12 c74_12l false := rgE _ _
@[simp] def c74_13l : List EO := [o 2 .mv [b false]]
def c74_13 : EC := .rg c74_13l false
@[simp] theorem c74_13e : Rg c74_13 c74_13l false := rgE _ _
def c74_14 : EC := .sq c74_13 .rt
@[simp] theorem c74_14e : Sq c74_14 c74_13 .rt := sqE _ _
def c74_15 : EC := .cd (t 55) c74_14 .skip
@[simp] theorem c74_15e : Cd c74_15 (t 55) c74_14 .skip := cdE _ _ _
def c74_16 : EC := .sq c74_12 c74_15
@[simp] theorem c74_16e : Sq c74_16 c74_12 c74_15 := sqE _ _
@[simp] def c74_17l : List EO := [m 56 3,
 o 57 (.faddr 1) [t 5],
 o 58 (.load 1 false) [t 57],
 u (.mup false [1]) [t 56, t 58, b true]]
def c74_17 : EC := .rg c74_17l false
@[simp] theorem c74_17e : Rg c74_17 c74_17l false := rgE _ _
def c74_18 : EC := .sq c74_16 c74_17
@[simp] theorem c74_18e : Sq c74_18 c74_16 c74_17 := sqE _ _
def c74_19 : EC := .sq c74_11 c74_18
@[simp] theorem c74_19e : Sq c74_19 c74_11 c74_18 := sqE _ _
def c74_20 : EC := .sq c74_10 c74_19
@[simp] theorem c74_20e : Sq c74_20 c74_10 c74_19 := sqE _ _
def c74_21 : EC := .bk 1 c74_20
@[simp] theorem c74_21e : Bk c74_21 1 c74_20 := bkE _ _
@[simp] def c74_22l : List EO := [o 59 (.bin .add) [t 22, i 1],
 m 22 59]
def c74_22 : EC := .rg c74_22l false
@[simp] theorem c74_22e : Rg c74_22 c74_22l false := rgE _ _
def c74_23 : EC := .sq c74_21 c74_22
@[simp] theorem c74_23e : Sq c74_23 c74_21 c74_22 := sqE _ _
def c74_24 : EC := .sq c74_9 c74_23
@[simp] theorem c74_24e : Sq c74_24 c74_9 c74_23 := sqE _ _
def c74_25 : EC := .sq c74_8 c74_24
@[simp] theorem c74_25e : Sq c74_25 c74_8 c74_24 := sqE _ _
def c74_26 : EC := .bk 0 (.lp c74_25)
@[simp] theorem c74_26e : Bk c74_26 0 (.lp c74_25) := bkE _ _
def c74_27 : EC := .sq c74_7 c74_26
@[simp] theorem c74_27e : Sq c74_27 c74_7 c74_26 := sqE _ _
@[simp] def c74_28l : List EO := [o 2 .mv [b true]]
def c74_28 : EC := .rg c74_28l false
@[simp] theorem c74_28e : Rg c74_28 c74_28l false := rgE _ _
def c74_29 : EC := .sq c74_28 .rt
@[simp] theorem c74_29e : Sq c74_29 c74_28 .rt := sqE _ _
def c74_30 : EC := .sq c74_27 c74_29
@[simp] theorem c74_30e : Sq c74_30 c74_27 c74_29 := sqE _ _
def c74_31 : EC := .sq c74_6 c74_30
@[simp] theorem c74_31e : Sq c74_31 c74_6 c74_30 := sqE _ _
def c74_32 : EC := .sq c74_5 c74_31
@[simp] theorem c74_32e : Sq c74_32 c74_5 c74_31 := sqE _ _
def c74_33 : EC := .sq c74_0 c74_32
@[simp] theorem c74_33e : Sq c74_33 c74_0 c74_32 := sqE _ _
def c_group_accounts_74 : EC := c74_33
theorem k_74 : ecF Try.prog 74 = some (60, c_group_accounts_74, [.tm 2]) := by kernel_rfl

/-- tallystone/group.entity -/
@[simp] def c75_0l : List EO := [o 2 .box [t 0],
 o 3 .box [t 1],
 o 4 .mv [b false]]
def c75_0 : EC := .rg c75_0l false
@[simp] theorem c75_0e : Rg c75_0 c75_0l false := rgE _ _
@[simp] def c75_1l : List EO := [o 8 (.faddr 0) [t 3],
 o 9 (.load 1 false) [t 8],
 o 10 (.call 89) [t 9],
 o 11 (.un .not) [t 10],
 m 12 11,
 n 13 12 (.faddr 1) [t 3],
 n 14 12 (.load 1 false) [t 13],
 n 15 12 (.call 72) [t 14],
 n 16 12 (.un .not) [t 15],
 o 17 .pick [t 12, b true, t 16],
 m 18 17,
 n 19 18 (.load 5 true) [t 3],
 n 20 18 (.faddr 4) [t 2],
 n 21 18 (.load 1 false) [t 20],
 n 22 18 (.call 90) [t 19, t 21],
 n 23 18 (.un .not) [t 22],
 o 24 .pick [t 18, b true, t 23]]
def c75_1 : EC := .rg c75_1l false
@[simp] theorem c75_1e : Rg c75_1 c75_1l false := rgE _ _
@[simp] def c75_2l : List EO := [o 4 .mv [b false]]
def c75_2 : EC := .rg c75_2l false
@[simp] theorem c75_2e : Rg c75_2 c75_2l false := rgE _ _
def c75_3 : EC := .sq c75_2 .rt
@[simp] theorem c75_3e : Sq c75_3 c75_2 .rt := sqE _ _
def c75_4 : EC := .cd (t 24) c75_3 .skip
@[simp] theorem c75_4e : Cd c75_4 (t 24) c75_3 .skip := cdE _ _ _
def c75_5 : EC := .sq c75_1 c75_4
@[simp] theorem c75_5e : Sq c75_5 c75_1 c75_4 := sqE _ _
@[simp] def c75_6l : List EO := [o 25 .mkmap [],
 o 5 (.alloc [.t (.nilm)]) [],
 u (.store 1) [t 5, t 25]]
def c75_6 : EC := .rg c75_6l false
@[simp] theorem c75_6e : Rg c75_6 c75_6l false := rgE _ _
@[simp] def c75_7l : List EO := [o 26 (.faddr 5) [t 2],
 o 27 (.load 15 true) [t 26],
 o 28 (.call 87) [t 27],
 o 29 .lenL [t 28],
 o 30 .mv [i 0]]
def c75_7 : EC := .rg c75_7l false
@[simp] theorem c75_7e : Rg c75_7 c75_7l false := rgE _ _
@[simp] def c75_8l : List EO := [o 31 (.bin .lss) [t 30, t 29]]
def c75_8 : EC := .rg c75_8l false
@[simp] theorem c75_8e : Rg c75_8 c75_8l false := rgE _ _
def c75_9 : EC := .cd (t 31) .skip (.ex 0)
@[simp] theorem c75_9e : Cd c75_9 (t 31) .skip (.ex 0) := cdE _ _ _
@[simp] def c75_10l : List EO := [o 32 (.iaS 5) [t 28, t 30],
 o 33 (.load 5 true) [t 32],
 o 7 (.alloc [.t (.str []), .t (.int .i64 0), .t (.int .i64 0), .t (.int .i64 0), .t (.bool false)]) [],
 u (.store 5) [t 7, t 33]]
def c75_10 : EC := .rg c75_10l false
@[simp] theorem c75_10e : Rg c75_10 c75_10l false := rgE _ _
@[simp] def c75_11l : List EO := [o 34 (.load 1 false) [t 5],
 o 35 (.faddr 1) [t 7],
 o 36 (.load 1 false) [t 35],
 o 37 (.faddr 4) [t 7],
 o 38 (.load 1 false) [t 37],
 o 39 (.un .not) [t 38],
 u (.mup false [1]) [t 34, t 36, t 39]]
def c75_11 : EC := .rg c75_11l false
@[simp] theorem c75_11e : Rg c75_11 c75_11l false := rgE _ _
def c75_12 : EC := .sq c75_10 c75_11
@[simp] theorem c75_12e : Sq c75_12 c75_10 c75_11 := sqE _ _
def c75_13 : EC := .bk 1 c75_12
@[simp] theorem c75_13e : Bk c75_13 1 c75_12 := bkE _ _
@[simp] def c75_14l : List EO := [o 40 (.bin .add) [t 30, i 1],
 m 30 40]
def c75_14 : EC := .rg c75_14l false
@[simp] theorem c75_14e : Rg c75_14 c75_14l false := rgE _ _
def c75_15 : EC := .sq c75_13 c75_14
@[simp] theorem c75_15e : Sq c75_15 c75_13 c75_14 := sqE _ _
def c75_16 : EC := .sq c75_9 c75_15
@[simp] theorem c75_16e : Sq c75_16 c75_9 c75_15 := sqE _ _
def c75_17 : EC := .sq c75_8 c75_16
@[simp] theorem c75_17e : Sq c75_17 c75_8 c75_16 := sqE _ _
def c75_18 : EC := .bk 0 (.lp c75_17)
@[simp] theorem c75_18e : Bk c75_18 0 (.lp c75_17) := bkE _ _
def c75_19 : EC := .sq c75_7 c75_18
@[simp] theorem c75_19e : Sq c75_19 c75_7 c75_18 := sqE _ _
@[simp] def c75_20l : List EO := [o 41 (.faddr 3) [t 3],
 o 42 (.load 1 false) [t 41],
 o 43 (.mkfn (.func 92)) [t 5],
 o 44 (.call 91) [t 42, t 43],
 o 45 (.un .not) [t 44],
 m 4 45]
def c75_20 : EC := .rg c75_20l false
@[simp] theorem c75_20e : Rg c75_20 c75_20l false := rgE _ _
def c75_21 : EC := .sq c75_20 .rt
@[simp] theorem c75_21e : Sq c75_21 c75_20 .rt := sqE _ _
def c75_22 : EC := .sq c75_19 c75_21
@[simp] theorem c75_22e : Sq c75_22 c75_19 c75_21 := sqE _ _
def c75_23 : EC := .sq c75_6 c75_22
@[simp] theorem c75_23e : Sq c75_23 c75_6 c75_22 := sqE _ _
def c75_24 : EC := .sq c75_5 c75_23
@[simp] theorem c75_24e : Sq c75_24 c75_5 c75_23 := sqE _ _
def c75_25 : EC := .sq c75_0 c75_24
@[simp] theorem c75_25e : Sq c75_25 c75_0 c75_24 := sqE _ _
def c_group_entity_75 : EC := c75_25
theorem k_75 : ecF Try.prog 75 = some (46, c_group_entity_75, [.tm 4]) := by kernel_rfl

/-- tallystone/calendar.check -/
@[simp] def c76_0l : List EO := [o 2 .box [t 0],
 o 4 .mv [i 0]]
def c76_0 : EC := .rg c76_0l false
@[simp] theorem c76_0e : Rg c76_0 c76_0l false := rgE _ _
@[simp] def c76_1l : List EO := [o 6 (.load 3 true) [t 2],
 o 7 (.call 73) [t 6],
 o 8 (.un .not) [t 7],
 m 5 8]
def c76_1 : EC := .rg c76_1l false
@[simp] theorem c76_1e : Rg c76_1 c76_1l false := rgE _ _
@[simp] def c76_2l : List EO := [o 4 .mv [i 1]]
def c76_2 : EC := .rg c76_2l false
@[simp] theorem c76_2e : Rg c76_2 c76_2l false := rgE _ _
def c76_3 : EC := .sq c76_2 .rt
@[simp] theorem c76_3e : Sq c76_3 c76_2 .rt := sqE _ _
@[simp] def c76_4l : List EO := [m 10 1,
 o 11 (.bin .lss) [t 10, i 0],
 m 12 11,
 n 13 12 .mv [t 1],
 n 14 12 (.faddr 2) [t 2],
 n 15 12 (.load 1 false) [t 14],
 n 16 12 (.bin .geq) [t 13, t 15],
 o 17 .pick [t 12, b true, t 16],
 m 9 17]
def c76_4 : EC := .rg c76_4l false
@[simp] theorem c76_4e : Rg c76_4 c76_4l false := rgE _ _
@[simp] def c76_5l : List EO := [o 4 .mv [i 2]]
def c76_5 : EC := .rg c76_5l false
@[simp] theorem c76_5e : Rg c76_5 c76_5l false := rgE _ _
def c76_6 : EC := .sq c76_5 .rt
@[simp] theorem c76_6e : Sq c76_6 c76_5 .rt := sqE _ _
def c76_7 : EC := .cd (t 9) c76_6 .skip
@[simp] theorem c76_7e : Cd c76_7 (t 9) c76_6 .skip := cdE _ _ _
def c76_8 : EC := .sq c76_4 c76_7
@[simp] theorem c76_8e : Sq c76_8 c76_4 c76_7 := sqE _ _
def c76_9 : EC := .cd (t 5) c76_3 c76_8
@[simp] theorem c76_9e : Cd c76_9 (t 5) c76_3 c76_8 := cdE _ _ _
def c76_10 : EC := .sq c76_1 c76_9
@[simp] theorem c76_10e : Sq c76_10 c76_1 c76_9 := sqE _ _
def c76_11 : EC := .bk 0 c76_10
@[simp] theorem c76_11e : Bk c76_11 0 c76_10 := bkE _ _
@[simp] def c76_12l : List EO := [o 4 .mv [i 0]]
def c76_12 : EC := .rg c76_12l false
@[simp] theorem c76_12e : Rg c76_12 c76_12l false := rgE _ _
def c76_13 : EC := .sq c76_12 .rt
@[simp] theorem c76_13e : Sq c76_13 c76_12 .rt := sqE _ _
def c76_14 : EC := .sq c76_11 c76_13
@[simp] theorem c76_14e : Sq c76_14 c76_11 c76_13 := sqE _ _
def c76_15 : EC := .sq c76_0 c76_14
@[simp] theorem c76_15e : Sq c76_15 c76_0 c76_14 := sqE _ _
def c_calendar_check_76 : EC := c76_15
theorem k_76 : ecF Try.prog 76 = some (18, c_calendar_check_76, [.tm 4]) := by kernel_rfl

/-- tallystone/calendar.first -/
@[simp] def c77_0l : List EO := [o 2 .box [t 0],
 o 4 .mv [i 0],
 o 5 .mv [i 0]]
def c77_0 : EC := .rg c77_0l false
@[simp] theorem c77_0e : Rg c77_0 c77_0l false := rgE _ _
@[simp] def c77_1l : List EO := [o 7 (.faddr 0) [t 2],
 o 8 (.load 1 false) [t 7],
 o 9 (.bin .mul) [i 12, t 8],
 o 10 (.faddr 1) [t 2],
 o 11 (.load 1 false) [t 10],
 o 12 (.bin .add) [t 9, t 11],
 o 13 (.bin .sub) [t 12, i 1],
 m 14 1,
 o 15 (.bin .add) [t 13, t 14],
 m 6 15]
def c77_1 : EC := .rg c77_1l false
@[simp] theorem c77_1e : Rg c77_1 c77_1l false := rgE _ _
@[simp] def c77_2l : List EO := [m 16 6,
 o 17 (.bin .quo) [t 16, i 12],
 m 18 6,
 o 19 (.bin .rem) [t 18, i 12],
 o 20 (.bin .add) [t 19, i 1],
 o 21 (.call 93) [t 17, t 20, i 1],
 o 22 (.ext 0) [t 21],
 o 23 (.ext 1) [t 21],
 m 4 22,
 m 5 23]
def c77_2 : EC := .rg c77_2l false
@[simp] theorem c77_2e : Rg c77_2 c77_2l false := rgE _ _
def c77_3 : EC := .sq c77_2 .rt
@[simp] theorem c77_3e : Sq c77_3 c77_2 .rt := sqE _ _
def c77_4 : EC := .sq c77_1 c77_3
@[simp] theorem c77_4e : Sq c77_4 c77_1 c77_3 := sqE _ _
def c77_5 : EC := .sq c77_0 c77_4
@[simp] theorem c77_5e : Sq c77_5 c77_0 c77_4 := sqE _ _
def c_calendar_first_77 : EC := c77_5
theorem k_77 : ecF Try.prog 77 = some (24, c_calendar_first_77, [.tm 4, .tm 5]) := by kernel_rfl

/-- tallystone/date.Civil -/
@[simp] def c78_0l : List EO := [o 2 .mv [i 0],
 o 3 .mv [i 0],
 o 4 .mv [i 0],
 o 5 .mv [i 0]]
def c78_0 : EC := .rg c78_0l false
@[simp] theorem c78_0e : Rg c78_0 c78_0l false := rgE _ _
@[simp] def c78_1l : List EO := [m 6 0,
 o 7 (.call 94) [t 6],
 o 8 (.un .not) [t 7]]
def c78_1 : EC := .rg c78_1l false
@[simp] theorem c78_1e : Rg c78_1 c78_1l false := rgE _ _
@[simp] def c78_2l : List EO := [o 2 .mv [i 0],
 o 3 .mv [i 0],
 o 4 .mv [i 0],
 o 5 .mv [i 2]]
def c78_2 : EC := .rg c78_2l false
@[simp] theorem c78_2e : Rg c78_2 c78_2l false := rgE _ _
def c78_3 : EC := .sq c78_2 .rt
@[simp] theorem c78_3e : Sq c78_3 c78_2 .rt := sqE _ _
def c78_4 : EC := .cd (t 8) c78_3 .skip
@[simp] theorem c78_4e : Cd c78_4 (t 8) c78_3 .skip := cdE _ _ _
def c78_5 : EC := .sq c78_1 c78_4
@[simp] theorem c78_5e : Sq c78_5 c78_1 c78_4 := sqE _ _
@[simp] def c78_6l : List EO := [m 9 0,
 o 10 (.bin .quo) [t 9, i 366],
 o 11 (.bin .add) [i 1970, t 10],
 o 12 (.bin .sub) [t 11, i 2],
 m 2 12]
def c78_6 : EC := .rg c78_6l false
@[simp] theorem c78_6e : Rg c78_6 c78_6l false := rgE _ _
@[simp] def c78_7l : List EO := [m 13 2,
 o 14 (.bin .lss) [t 13, i 1900],
 m 15 14,
 n 16 15 .mv [t 2],
 n 17 15 (.bin .add) [t 16, i 1],
 n 18 15 (.call 95) [t 17],
 n 19 15 .mv [t 0],
 n 20 15 (.bin .leq) [t 18, t 19],
 o 21 .pick [t 15, b true, t 20]]
def c78_7 : EC := .rg c78_7l false
@[simp] theorem c78_7e : Rg c78_7 c78_7l false := rgE _ _
def c78_8 : EC := .cd (t 21) .skip (.ex 0)
@[simp] theorem c78_8e : Cd c78_8 (t 21) .skip (.ex 0) := cdE _ _ _
def c78_9 : EC := .sq c78_7 c78_8
@[simp] theorem c78_9e : Sq c78_9 c78_7 c78_8 := sqE _ _
@[simp] def c78_10l : List EO := [m 22 2,
 o 23 (.bin .add) [t 22, i 1],
 m 2 23]
def c78_10 : EC := .rg c78_10l false
@[simp] theorem c78_10e : Rg c78_10 c78_10l false := rgE _ _
def c78_11 : EC := .bk 1 c78_10
@[simp] theorem c78_11e : Bk c78_11 1 c78_10 := bkE _ _
def c78_12 : EC := .sq c78_9 c78_11
@[simp] theorem c78_12e : Sq c78_12 c78_9 c78_11 := sqE _ _
def c78_13 : EC := .bk 0 (.lp c78_12)
@[simp] theorem c78_13e : Bk c78_13 0 (.lp c78_12) := bkE _ _
@[simp] def c78_14l : List EO := [m 24 0,
 m 25 2,
 o 26 (.call 95) [t 25],
 o 27 (.bin .sub) [t 24, t 26],
 m 4 27]
def c78_14 : EC := .rg c78_14l false
@[simp] theorem c78_14e : Rg c78_14 c78_14l false := rgE _ _
@[simp] def c78_15l : List EO := [o 3 .mv [i 1]]
def c78_15 : EC := .rg c78_15l false
@[simp] theorem c78_15e : Rg c78_15 c78_15l false := rgE _ _
@[simp] def c78_16l : List EO := [m 28 4,
 m 29 2,
 m 30 3,
 o 31 (.call 79) [t 29, t 30],
 o 32 (.bin .geq) [t 28, t 31]]
def c78_16 : EC := .rg c78_16l false
@[simp] theorem c78_16e : Rg c78_16 c78_16l false := rgE _ _
def c78_17 : EC := .cd (t 32) .skip (.ex 2)
@[simp] theorem c78_17e : Cd c78_17 (t 32) .skip (.ex 2) := cdE _ _ _
def c78_18 : EC := .sq c78_16 c78_17
@[simp] theorem c78_18e : Sq c78_18 c78_16 c78_17 := sqE _ _
@[simp] def c78_19l : List EO := [m 33 4,
 m 34 2,
 m 35 3,
 o 36 (.call 79) [t 34, t 35],
 o 37 (.bin .sub) [t 33, t 36],
 m 4 37]
def c78_19 : EC := .rg c78_19l false
@[simp] theorem c78_19e : Rg c78_19 c78_19l false := rgE _ _
@[simp] def c78_20l : List EO := [m 38 3,
 o 39 (.bin .add) [t 38, i 1],
 m 3 39]
def c78_20 : EC := .rg c78_20l false
@[simp] theorem c78_20e : Rg c78_20 c78_20l false := rgE _ _
def c78_21 : EC := .sq c78_19 c78_20
@[simp] theorem c78_21e : Sq c78_21 c78_19 c78_20 := sqE _ _
def c78_22 : EC := .bk 3 c78_21
@[simp] theorem c78_22e : Bk c78_22 3 c78_21 := bkE _ _
def c78_23 : EC := .sq c78_18 c78_22
@[simp] theorem c78_23e : Sq c78_23 c78_18 c78_22 := sqE _ _
def c78_24 : EC := .bk 2 (.lp c78_23)
@[simp] theorem c78_24e : Bk c78_24 2 (.lp c78_23) := bkE _ _
@[simp] def c78_25l : List EO := [m 40 2,
 m 41 3,
 m 42 4,
 o 43 (.bin .add) [t 42, i 1],
 m 2 40,
 m 3 41,
 m 4 43,
 o 5 .mv [i 0]]
def c78_25 : EC := .rg c78_25l false
@[simp] theorem c78_25e : Rg c78_25 c78_25l false := rgE _ _
def c78_26 : EC := .sq c78_25 .rt
@[simp] theorem c78_26e : Sq c78_26 c78_25 .rt := sqE _ _
def c78_27 : EC := .sq c78_24 c78_26
@[simp] theorem c78_27e : Sq c78_27 c78_24 c78_26 := sqE _ _
def c78_28 : EC := .sq c78_15 c78_27
@[simp] theorem c78_28e : Sq c78_28 c78_15 c78_27 := sqE _ _
def c78_29 : EC := .sq c78_14 c78_28
@[simp] theorem c78_29e : Sq c78_29 c78_14 c78_28 := sqE _ _
def c78_30 : EC := .sq c78_13 c78_29
@[simp] theorem c78_30e : Sq c78_30 c78_13 c78_29 := sqE _ _
def c78_31 : EC := .sq c78_6 c78_30
@[simp] theorem c78_31e : Sq c78_31 c78_6 c78_30 := sqE _ _
def c78_32 : EC := .sq c78_5 c78_31
@[simp] theorem c78_32e : Sq c78_32 c78_5 c78_31 := sqE _ _
def c78_33 : EC := .sq c78_0 c78_32
@[simp] theorem c78_33e : Sq c78_33 c78_0 c78_32 := sqE _ _
def c_date_Civil_78 : EC := c78_33
theorem k_78 : ecF Try.prog 78 = some (44, c_date_Civil_78, [.tm 2, .tm 3, .tm 4, .tm 5]) := by kernel_rfl

/-- tallystone/date.Days -/
@[simp] def c79_0l : List EO := [o 4 .mv [i 0]]
def c79_0 : EC := .rg c79_0l false
@[simp] theorem c79_0e : Rg c79_0 c79_0l false := rgE _ _
@[simp] def c79_1l : List EO := [m 6 0,
 o 7 (.bin .lss) [t 6, i 1900],
 m 8 7,
 n 9 8 .mv [t 0],
 n 10 8 (.bin .gtr) [t 9, i 2199],
 o 11 .pick [t 8, b true, t 10],
 m 12 11,
 n 13 12 .mv [t 1],
 n 14 12 (.bin .lss) [t 13, i 1],
 o 15 .pick [t 12, b true, t 14],
 m 16 15,
 n 17 16 .mv [t 1],
 n 18 16 (.bin .gtr) [t 17, i 12],
 o 19 .pick [t 16, b true, t 18]]
def c79_1 : EC := .rg c79_1l false
@[simp] theorem c79_1e : Rg c79_1 c79_1l false := rgE _ _
@[simp] def c79_2l : List EO := [o 4 .mv [i 0]]
def c79_2 : EC := .rg c79_2l false
@[simp] theorem c79_2e : Rg c79_2 c79_2l false := rgE _ _
def c79_3 : EC := .sq c79_2 .rt
@[simp] theorem c79_3e : Sq c79_3 c79_2 .rt := sqE _ _
def c79_4 : EC := .cd (t 19) c79_3 .skip
@[simp] theorem c79_4e : Cd c79_4 (t 19) c79_3 .skip := cdE _ _ _
def c79_5 : EC := .sq c79_1 c79_4
@[simp] theorem c79_5e : Sq c79_5 c79_1 c79_4 := sqE _ _
@[simp] def c79_6l : List EO := [o 20 (.build [.t (.int .i64 0), .t (.int .i64 0), .t (.int .i64 0), .t (.int .i64 0), .t (.int .i64 0), .t (.int .i64 0), .t (.int .i64 0), .t (.int .i64 0), .t (.int .i64 0), .t (.int .i64 0), .t (.int .i64 0), .t (.int .i64 0)] [(0, 1), (1, 1), (2, 1), (3, 1), (4, 1), (5, 1), (6, 1), (7, 1), (8, 1), (9, 1), (10, 1), (11, 1)]) [i 31, i 28, i 31, i 30, i 31, i 30, i 31, i 31, i 30, i 31, i 30, i 31],
 o 5 (.alloc [.t (.int .i64 0), .t (.int .i64 0), .t (.int .i64 0), .t (.int .i64 0), .t (.int .i64 0), .t (.int .i64 0), .t (.int .i64 0), .t (.int .i64 0), .t (.int .i64 0), .t (.int .i64 0), .t (.int .i64 0), .t (.int .i64 0)]) [],
 u (.store 12) [t 5, t 20]]
def c79_6 : EC := .rg c79_6l false
@[simp] theorem c79_6e : Rg c79_6 c79_6l false := rgE _ _
@[simp] def c79_7l : List EO := [m 21 1,
 o 22 (.bin .eql) [t 21, i 2],
 m 23 22,
 y 24 23 .mv [t 0],
 y 25 23 (.call 96) [t 24],
 o 26 .pick [t 23, t 25, b false]]
def c79_7 : EC := .rg c79_7l false
@[simp] theorem c79_7e : Rg c79_7 c79_7l false := rgE _ _
@[simp] def c79_8l : List EO := [o 4 .mv [i 29]]
def c79_8 : EC := .rg c79_8l false
@[simp] theorem c79_8e : Rg c79_8 c79_8l false := rgE _ _
def c79_9 : EC := .sq c79_8 .rt
@[simp] theorem c79_9e : Sq c79_9 c79_8 .rt := sqE _ _
def c79_10 : EC := .cd (t 26) c79_9 .skip
@[simp] theorem c79_10e : Cd c79_10 (t 26) c79_9 .skip := cdE _ _ _
def c79_11 : EC := .sq c79_7 c79_10
@[simp] theorem c79_11e : Sq c79_11 c79_7 c79_10 := sqE _ _
@[simp] def c79_12l : List EO := [m 27 1,
 o 28 (.bin .sub) [t 27, i 1],
 o 29 (.iaA 12 1) [t 5, t 28],
 o 30 (.load 1 false) [t 29],
 m 4 30]
def c79_12 : EC := .rg c79_12l false
@[simp] theorem c79_12e : Rg c79_12 c79_12l false := rgE _ _
def c79_13 : EC := .sq c79_12 .rt
@[simp] theorem c79_13e : Sq c79_13 c79_12 .rt := sqE _ _
def c79_14 : EC := .sq c79_11 c79_13
@[simp] theorem c79_14e : Sq c79_14 c79_11 c79_13 := sqE _ _
def c79_15 : EC := .sq c79_6 c79_14
@[simp] theorem c79_15e : Sq c79_15 c79_6 c79_14 := sqE _ _
def c79_16 : EC := .sq c79_5 c79_15
@[simp] theorem c79_16e : Sq c79_16 c79_5 c79_15 := sqE _ _
def c79_17 : EC := .sq c79_0 c79_16
@[simp] theorem c79_17e : Sq c79_17 c79_0 c79_16 := sqE _ _
def c_date_Days_79 : EC := c79_17
theorem k_79 : ecF Try.prog 79 = some (31, c_date_Days_79, [.tm 4]) := by kernel_rfl

/-- tallystone/tallystoneref08.proper -/
@[simp] def c80_0l : List EO := [o 4 .box [t 1],
 o 6 .mv [b false]]
def c80_0 : EC := .rg c80_0l false
@[simp] theorem c80_0e : Rg c80_0 c80_0l false := rgE _ _
@[simp] def c80_1l : List EO := [o 9 (.faddr 0) [t 4],
 o 10 (.load 1 false) [t 9],
 o 11 (.bin .lss) [t 10, i 1],
 m 12 11,
 n 13 12 (.faddr 0) [t 4],
 n 14 12 (.load 1 false) [t 13],
 n 15 12 (.bin .gtr) [t 14, i 99999],
 o 16 .pick [t 12, b true, t 15],
 m 17 16,
 n 18 17 (.faddr 1) [t 4],
 n 19 17 (.load 1 false) [t 18],
 n 20 17 (.bin .lss) [t 19, i 1],
 o 21 .pick [t 17, b true, t 20],
 m 22 21,
 n 23 22 (.faddr 1) [t 4],
 n 24 22 (.load 1 false) [t 23],
 n 25 22 (.bin .gtr) [t 24, i 5],
 o 26 .pick [t 22, b true, t 25]]
def c80_1 : EC := .rg c80_1l false
@[simp] theorem c80_1e : Rg c80_1 c80_1l false := rgE _ _
@[simp] def c80_2l : List EO := [o 6 .mv [b false]]
def c80_2 : EC := .rg c80_2l false
@[simp] theorem c80_2e : Rg c80_2 c80_2l false := rgE _ _
def c80_3 : EC := .sq c80_2 .rt
@[simp] theorem c80_3e : Sq c80_3 c80_2 .rt := sqE _ _
def c80_4 : EC := .cd (t 26) c80_3 .skip
@[simp] theorem c80_4e : Cd c80_4 (t 26) c80_3 .skip := cdE _ _ _
def c80_5 : EC := .sq c80_1 c80_4
@[simp] theorem c80_5e : Sq c80_5 c80_1 c80_4 := sqE _ _
@[simp] def c80_6l : List EO := [m 27 2,
 m 28 27,
 y 29 28 (.faddr 2) [t 4],
 y 30 28 (.load 1 false) [t 29],
 y 31 28 (.bin .lss) [t 30, i 1],
 y 32 28 .mv [t 31],
 n 33 32 (.faddr 2) [t 4],
 n 34 32 (.load 1 false) [t 33],
 n 35 32 (.bin .gtr) [t 34, i 3],
 y 36 28 .pick [t 32, b true, t 35],
 o 37 .pick [t 28, t 36, b false],
 m 38 37,
 n 39 38 .mv [t 2],
 n 40 38 (.un .not) [t 39],
 n 41 38 .mv [t 40],
 y 42 41 (.faddr 2) [t 4],
 y 43 41 (.load 1 false) [t 42],
 y 44 41 (.bin .neq) [t 43, i 0],
 n 45 38 .pick [t 41, t 44, b false],
 o 46 .pick [t 38, b true, t 45]]
def c80_6 : EC := .rg c80_6l false
@[simp] theorem c80_6e : Rg c80_6 c80_6l false := rgE _ _
@[simp] def c80_7l : List EO := [o 6 .mv [b false]]
def c80_7 : EC := .rg c80_7l false
@[simp] theorem c80_7e : Rg c80_7 c80_7l false := rgE _ _
def c80_8 : EC := .sq c80_7 .rt
@[simp] theorem c80_8e : Sq c80_8 c80_7 .rt := sqE _ _
def c80_9 : EC := .cd (t 46) c80_8 .skip
@[simp] theorem c80_9e : Cd c80_9 (t 46) c80_8 .skip := cdE _ _ _
def c80_10 : EC := .sq c80_6 c80_9
@[simp] theorem c80_10e : Sq c80_10 c80_6 c80_9 := sqE _ _
@[simp] def c80_11l : List EO := [o 47 (.faddr 3) [t 4],
 o 48 (.load 1 false) [t 47],
 o 49 (.bin .eql) [t 48, i 0]]
def c80_11 : EC := .rg c80_11l false
@[simp] theorem c80_11e : Rg c80_11 c80_11l false := rgE _ _
@[simp] def c80_12l : List EO := [o 6 .mv [b true]]
def c80_12 : EC := .rg c80_12l false
@[simp] theorem c80_12e : Rg c80_12 c80_12l false := rgE _ _
def c80_13 : EC := .sq c80_12 .rt
@[simp] theorem c80_13e : Sq c80_13 c80_12 .rt := sqE _ _
def c80_14 : EC := .cd (t 49) c80_13 .skip
@[simp] theorem c80_14e : Cd c80_14 (t 49) c80_13 .skip := cdE _ _ _
def c80_15 : EC := .sq c80_11 c80_14
@[simp] theorem c80_15e : Sq c80_15 c80_11 c80_14 := sqE _ _
@[simp] def c80_16l : List EO := [m 51 0,
 o 52 (.faddr 3) [t 4],
 o 53 (.load 1 false) [t 52],
 o 54 (.call 50) [t 51, t 53],
 m 50 54,
 o 55 (.ext 0) [t 50],
 o 56 (.ext 1) [t 50],
 o 7 (.alloc [.t (.int .i64 0), .t (.int .i64 0), .t (.int .i64 0), .t (.int .i64 0)]) [],
 u (.store 4) [t 7, t 55],
 m 8 56]
def c80_16 : EC := .rg c80_16l false
@[simp] theorem c80_16e : Rg c80_16 c80_16l false := rgE _ _
@[simp] def c80_17l : List EO := [m 57 8,
 m 58 57,
 y 59 58 (.faddr 0) [t 7],
 y 60 58 (.load 1 false) [t 59],
 y 61 58 (.faddr 0) [t 4],
 y 62 58 (.load 1 false) [t 61],
 y 63 58 (.bin .neq) [t 60, t 62],
 o 64 .pick [t 58, t 63, b false],
 m 65 64,
 y 66 65 (.faddr 1) [t 7],
 y 67 65 (.load 1 false) [t 66],
 y 68 65 (.faddr 1) [t 4],
 y 69 65 (.load 1 false) [t 68],
 y 70 65 (.bin .eql) [t 67, t 69],
 o 71 .pick [t 65, t 70, b false],
 m 6 71]
def c80_17 : EC := .rg c80_17l false
@[simp] theorem c80_17e : Rg c80_17 c80_17l false := rgE _ _
def c80_18 : EC := .sq c80_17 .rt
@[simp] theorem c80_18e : Sq c80_18 c80_17 .rt := sqE _ _
def c80_19 : EC := .sq c80_16 c80_18
@[simp] theorem c80_19e : Sq c80_19 c80_16 c80_18 := sqE _ _
def c80_20 : EC := .sq c80_15 c80_19
@[simp] theorem c80_20e : Sq c80_20 c80_15 c80_19 := sqE _ _
def c80_21 : EC := .sq c80_10 c80_20
@[simp] theorem c80_21e : Sq c80_21 c80_10 c80_20 := sqE _ _
def c80_22 : EC := .sq c80_5 c80_21
@[simp] theorem c80_22e : Sq c80_22 c80_5 c80_21 := sqE _ _
def c80_23 : EC := .sq c80_0 c80_22
@[simp] theorem c80_23e : Sq c80_23 c80_0 c80_22 := sqE _ _
def c_tallystoneref08_proper_80 : EC := c80_23
theorem k_80 : ecF Try.prog 80 = some (72, c_tallystoneref08_proper_80, [.tm 6]) := by kernel_rfl

/-- tallystone/tallystoneref08.climb -/
@[simp] def c81_0l : List EO := [o 4 .mv [c (.snil)]]
def c81_0 : EC := .rg c81_0l false
@[simp] theorem c81_0e : Rg c81_0 c81_0l false := rgE _ _
@[simp] def c81_1l : List EO := [o 5 .mv [c (.snil)]]
def c81_1 : EC := .rg c81_1l false
@[simp] theorem c81_1e : Rg c81_1 c81_1l false := rgE _ _
@[simp] def c81_2l : List EO := [o 6 .mv [i 0]]
def c81_2 : EC := .rg c81_2l false
@[simp] theorem c81_2e : Rg c81_2 c81_2l false := rgE _ _
@[simp] def c81_3l : List EO := [m 9 6,
 m 10 0,
 o 11 .lenL [t 10],
 o 12 (.bin .leq) [t 9, t 11]]
def c81_3 : EC := .rg c81_3l false
@[simp] theorem c81_3e : Rg c81_3 c81_3l false := rgE _ _
def c81_4 : EC := .cd (t 12) .skip (.ex 0)
@[simp] theorem c81_4e : Cd c81_4 (t 12) .skip (.ex 0) := cdE _ _ _
def c81_5 : EC := .sq c81_3 c81_4
@[simp] theorem c81_5e : Sq c81_5 c81_3 c81_4 := sqE _ _
@[simp] def c81_6l : List EO := [m 16 0,
 m 17 1,
 o 18 (.call 50) [t 16, t 17],
 m 15 18,
 o 19 (.ext 0) [t 15],
 o 20 (.ext 1) [t 15],
 o 7 (.alloc [.t (.int .i64 0), .t (.int .i64 0), .t (.int .i64 0), .t (.int .i64 0)]) [],
 u (.store 4) [t 7, t 19],
 m 8 20]
def c81_6 : EC := .rg c81_6l false
@[simp] theorem c81_6e : Rg c81_6 c81_6l false := rgE _ _
@[simp] def c81_7l : List EO := [m 21 8,
 o 22 (.un .not) [t 21]]
def c81_7 : EC := .rg c81_7l false
@[simp] theorem c81_7e : Rg c81_7 c81_7l false := rgE _ _
def c81_8 : EC := .cd (t 22) (.ex 0) .skip
@[simp] theorem c81_8e : Cd c81_8 (t 22) (.ex 0) .skip := cdE _ _ _
def c81_9 : EC := .sq c81_7 c81_8
@[simp] theorem c81_9e : Sq c81_9 c81_7 c81_8 := sqE _ _
@[simp] def c81_10l : List EO := [m 23 5,
 m 24 1,
 o 25 (.bsl 1) [t 24],
 o 26 (.app 3 1 8) [t 23, t 25],
 m 5 26]
def c81_10 : EC := .rg c81_10l false
@[simp] theorem c81_10e : Rg c81_10 c81_10l false := rgE _ _
@[simp] def c81_11l : List EO := [o 27 (.faddr 3) [t 7],
 o 28 (.load 1 false) [t 27],
 m 1 28]
def c81_11 : EC := .rg c81_11l false
@[simp] theorem c81_11e : Rg c81_11 c81_11l false := rgE _ _
def c81_12 : EC := .sq c81_10 c81_11
@[simp] theorem c81_12e : Sq c81_12 c81_10 c81_11 := sqE _ _
def c81_13 : EC := .sq c81_9 c81_12
@[simp] theorem c81_13e : Sq c81_13 c81_9 c81_12 := sqE _ _
def c81_14 : EC := .sq c81_6 c81_13
@[simp] theorem c81_14e : Sq c81_14 c81_6 c81_13 := sqE _ _
def c81_15 : EC := .bk 1 c81_14
@[simp] theorem c81_15e : Bk c81_15 1 c81_14 := bkE _ _
@[simp] def c81_16l : List EO := [m 13 6,
 o 14 (.bin .add) [t 13, i 1],
 m 6 14]
def c81_16 : EC := .rg c81_16l false
@[simp] theorem c81_16e : Rg c81_16 c81_16l false := rgE _ _
def c81_17 : EC := .sq c81_15 c81_16
@[simp] theorem c81_17e : Sq c81_17 c81_15 c81_16 := sqE _ _
def c81_18 : EC := .sq c81_5 c81_17
@[simp] theorem c81_18e : Sq c81_18 c81_5 c81_17 := sqE _ _
def c81_19 : EC := .bk 0 (.lp c81_18)
@[simp] theorem c81_19e : Bk c81_19 0 (.lp c81_18) := bkE _ _
def c81_20 : EC := .sq c81_2 c81_19
@[simp] theorem c81_20e : Sq c81_20 c81_2 c81_19 := sqE _ _
@[simp] def c81_21l : List EO := [m 29 5,
 m 4 29]
def c81_21 : EC := .rg c81_21l false
@[simp] theorem c81_21e : Rg c81_21 c81_21l false := rgE _ _
def c81_22 : EC := .sq c81_21 .rt
@[simp] theorem c81_22e : Sq c81_22 c81_21 .rt := sqE _ _
def c81_23 : EC := .sq c81_20 c81_22
@[simp] theorem c81_23e : Sq c81_23 c81_20 c81_22 := sqE _ _
def c81_24 : EC := .sq c81_1 c81_23
@[simp] theorem c81_24e : Sq c81_24 c81_1 c81_23 := sqE _ _
def c81_25 : EC := .sq c81_0 c81_24
@[simp] theorem c81_25e : Sq c81_25 c81_0 c81_24 := sqE _ _
def c_tallystoneref08_climb_81 : EC := c81_25
theorem k_81 : ecF Try.prog 81 = some (30, c_tallystoneref08_climb_81, [.tm 4]) := by kernel_rfl

/-- tallystone/tallystoneref08.climb, with slices that grow in boxes -/
@[simp] def b81_0l : List EO := [o 4 .mv [c (.snil)]]
def b81_0 : EC := .rg b81_0l false
@[simp] theorem b81_0e : Rg b81_0 b81_0l false := rgE _ _
@[simp] def b81_1l : List EO := [o 5 .mv [c (.snil)]]
def b81_1 : EC := .rg b81_1l false
@[simp] theorem b81_1e : Rg b81_1 b81_1l false := rgE _ _
@[simp] def b81_2l : List EO := [o 6 .mv [i 0]]
def b81_2 : EC := .rg b81_2l false
@[simp] theorem b81_2e : Rg b81_2 b81_2l false := rgE _ _
@[simp] def b81_3l : List EO := [m 9 6,
 m 10 0,
 o 11 .lenL [t 10],
 o 12 (.bin .leq) [t 9, t 11]]
def b81_3 : EC := .rg b81_3l false
@[simp] theorem b81_3e : Rg b81_3 b81_3l false := rgE _ _
def b81_4 : EC := .cd (t 12) .skip (.ex 0)
@[simp] theorem b81_4e : Cd b81_4 (t 12) .skip (.ex 0) := cdE _ _ _
def b81_5 : EC := .sq b81_3 b81_4
@[simp] theorem b81_5e : Sq b81_5 b81_3 b81_4 := sqE _ _
@[simp] def b81_6l : List EO := [m 16 0,
 m 17 1,
 o 18 (.call 50) [t 16, t 17],
 m 15 18,
 o 19 (.ext 0) [t 15],
 o 20 (.ext 1) [t 15],
 o 7 (.alloc [.t (.int .i64 0), .t (.int .i64 0), .t (.int .i64 0), .t (.int .i64 0)]) [],
 u (.store 4) [t 7, t 19],
 m 8 20]
def b81_6 : EC := .rg b81_6l false
@[simp] theorem b81_6e : Rg b81_6 b81_6l false := rgE _ _
@[simp] def b81_7l : List EO := [m 21 8,
 o 22 (.un .not) [t 21]]
def b81_7 : EC := .rg b81_7l false
@[simp] theorem b81_7e : Rg b81_7 b81_7l false := rgE _ _
def b81_8 : EC := .cd (t 22) (.ex 0) .skip
@[simp] theorem b81_8e : Cd b81_8 (t 22) (.ex 0) .skip := cdE _ _ _
def b81_9 : EC := .sq b81_7 b81_8
@[simp] theorem b81_9e : Sq b81_9 b81_7 b81_8 := sqE _ _
@[simp] def b81_10l : List EO := [m 23 5,
 m 24 1,
 o 25 (.bsl 1) [t 24],
 o 26 (.appB 3 1 8) [t 23, t 25],
 m 5 26]
def b81_10 : EC := .rg b81_10l false
@[simp] theorem b81_10e : Rg b81_10 b81_10l false := rgE _ _
@[simp] def b81_11l : List EO := [o 27 (.faddr 3) [t 7],
 o 28 (.load 1 false) [t 27],
 m 1 28]
def b81_11 : EC := .rg b81_11l false
@[simp] theorem b81_11e : Rg b81_11 b81_11l false := rgE _ _
def b81_12 : EC := .sq b81_10 b81_11
@[simp] theorem b81_12e : Sq b81_12 b81_10 b81_11 := sqE _ _
def b81_13 : EC := .sq b81_9 b81_12
@[simp] theorem b81_13e : Sq b81_13 b81_9 b81_12 := sqE _ _
def b81_14 : EC := .sq b81_6 b81_13
@[simp] theorem b81_14e : Sq b81_14 b81_6 b81_13 := sqE _ _
def b81_15 : EC := .bk 1 b81_14
@[simp] theorem b81_15e : Bk b81_15 1 b81_14 := bkE _ _
@[simp] def b81_16l : List EO := [m 13 6,
 o 14 (.bin .add) [t 13, i 1],
 m 6 14]
def b81_16 : EC := .rg b81_16l false
@[simp] theorem b81_16e : Rg b81_16 b81_16l false := rgE _ _
def b81_17 : EC := .sq b81_15 b81_16
@[simp] theorem b81_17e : Sq b81_17 b81_15 b81_16 := sqE _ _
def b81_18 : EC := .sq b81_5 b81_17
@[simp] theorem b81_18e : Sq b81_18 b81_5 b81_17 := sqE _ _
def b81_19 : EC := .bk 0 (.lp b81_18)
@[simp] theorem b81_19e : Bk b81_19 0 (.lp b81_18) := bkE _ _
def b81_20 : EC := .sq b81_2 b81_19
@[simp] theorem b81_20e : Sq b81_20 b81_2 b81_19 := sqE _ _
@[simp] def b81_21l : List EO := [m 29 5,
 m 4 29]
def b81_21 : EC := .rg b81_21l false
@[simp] theorem b81_21e : Rg b81_21 b81_21l false := rgE _ _
def b81_22 : EC := .sq b81_21 .rt
@[simp] theorem b81_22e : Sq b81_22 b81_21 .rt := sqE _ _
def b81_23 : EC := .sq b81_20 b81_22
@[simp] theorem b81_23e : Sq b81_23 b81_20 b81_22 := sqE _ _
def b81_24 : EC := .sq b81_1 b81_23
@[simp] theorem b81_24e : Sq b81_24 b81_1 b81_23 := sqE _ _
def b81_25 : EC := .sq b81_0 b81_24
@[simp] theorem b81_25e : Sq b81_25 b81_0 b81_24 := sqE _ _
def b_tallystoneref08_climb_81 : EC := b81_25
theorem kb_81 : ecB Try.prog 81 = some (30, b_tallystoneref08_climb_81, [.tm 4]) := by kernel_rfl

/-- tallystone/tallystoneref10.letter -/
@[simp] def c82_0l : List EO := [o 2 .mv [b false]]
def c82_0 : EC := .rg c82_0l false
@[simp] theorem c82_0e : Rg c82_0 c82_0l false := rgE _ _
@[simp] def c82_1l : List EO := [m 3 0,
 o 4 (.bin .geq) [t 3, c (.t (.int .u8 97))],
 m 5 4,
 y 6 5 .mv [t 0],
 y 7 5 (.bin .leq) [t 6, c (.t (.int .u8 122))],
 o 8 .pick [t 5, t 7, b false],
 m 9 8,
 n 10 9 .mv [t 0],
 n 11 9 (.bin .geq) [t 10, c (.t (.int .u8 65))],
 n 12 9 .mv [t 11],
 y 13 12 .mv [t 0],
 y 14 12 (.bin .leq) [t 13, c (.t (.int .u8 90))],
 n 15 9 .pick [t 12, t 14, b false],
 o 16 .pick [t 9, b true, t 15],
 m 2 16]
def c82_1 : EC := .rg c82_1l false
@[simp] theorem c82_1e : Rg c82_1 c82_1l false := rgE _ _
def c82_2 : EC := .sq c82_1 .rt
@[simp] theorem c82_2e : Sq c82_2 c82_1 .rt := sqE _ _
def c82_3 : EC := .sq c82_0 c82_2
@[simp] theorem c82_3e : Sq c82_3 c82_0 c82_2 := sqE _ _
def c_tallystoneref10_letter_82 : EC := c82_3
theorem k_82 : ecF Try.prog 82 = some (17, c_tallystoneref10_letter_82, [.tm 2]) := by kernel_rfl

/-- tallystone/chart.Valid -/
@[simp] def c83_0l : List EO := [o 4 .mv [b false]]
def c83_0 : EC := .rg c83_0l false
@[simp] theorem c83_0e : Rg c83_0 c83_0l false := rgE _ _
@[simp] def c83_1l : List EO := [m 7 0,
 o 8 .lenL [t 7],
 o 9 .mv [i 0]]
def c83_1 : EC := .rg c83_1l false
@[simp] theorem c83_1e : Rg c83_1 c83_1l false := rgE _ _
@[simp] def c83_2l : List EO := [o 10 (.bin .lss) [t 9, t 8]]
def c83_2 : EC := .rg c83_2l false
@[simp] theorem c83_2e : Rg c83_2 c83_2l false := rgE _ _
def c83_3 : EC := .cd (t 10) .skip (.ex 0)
@[simp] theorem c83_3e : Cd c83_3 (t 10) .skip (.ex 0) := cdE _ _ _
@[simp] def c83_4l : List EO := [m 11 9,
 o 12 (.iaS 4) [t 7, t 9],
 o 13 (.load 4 true) [t 12],
 o 6 (.alloc [.t (.int .i64 0), .t (.int .i64 0), .t (.int .i64 0), .t (.int .i64 0)]) [],
 m 5 11,
 u (.store 4) [t 6, t 13]]
def c83_4 : EC := .rg c83_4l false
@[simp] theorem c83_4e : Rg c83_4 c83_4l false := rgE _ _
@[simp] def c83_5l : List EO := [m 14 5,
 o 15 (.bin .gtr) [t 14, i 0],
 m 16 15,
 y 17 16 .mv [t 0],
 y 18 16 .mv [t 5],
 y 19 16 (.bin .sub) [t 18, i 1],
 y 20 16 (.iaS 4) [t 17, t 19],
 y 21 16 (.faddr 0) [t 20],
 y 22 16 (.load 1 false) [t 21],
 y 23 16 (.faddr 0) [t 6],
 y 24 16 (.load 1 false) [t 23],
 y 25 16 (.bin .geq) [t 22, t 24],
 o 26 .pick [t 16, t 25, b false],
 m 27 26,
 n 28 27 .mv [t 0],
 n 29 27 (.load 4 true) [t 6],
 n 30 27 .mv [t 1],
 n 31 27 (.call 97) [t 28, t 29, t 30],
 n 32 27 (.un .not) [t 31],
 o 33 .pick [t 27, b true, t 32]]
def c83_5 : EC := .rg c83_5l true
@[simp] theorem c83_5e : Rg c83_5 c83_5l true := rgE _ _
@[simp] def c83_6l : List EO := [o 4 .mv [b false]]
def c83_6 : EC := .rg c83_6l false
@[simp] theorem c83_6e : Rg c83_6 c83_6l false := rgE _ _
def c83_7 : EC := .sq c83_6 .rt
@[simp] theorem c83_7e : Sq c83_7 c83_6 .rt := sqE _ _
def c83_8 : EC := .cd (t 33) c83_7 .skip
@[simp] theorem c83_8e : Cd c83_8 (t 33) c83_7 .skip := cdE _ _ _
def c83_9 : EC := .sq c83_5 c83_8
@[simp] theorem c83_9e : Sq c83_9 c83_5 c83_8 := sqE _ _
def c83_10 : EC := .sq c83_4 c83_9
@[simp] theorem c83_10e : Sq c83_10 c83_4 c83_9 := sqE _ _
def c83_11 : EC := .bk 1 c83_10
@[simp] theorem c83_11e : Bk c83_11 1 c83_10 := bkE _ _
@[simp] def c83_12l : List EO := [o 34 (.bin .add) [t 9, i 1],
 m 9 34]
def c83_12 : EC := .rg c83_12l false
@[simp] theorem c83_12e : Rg c83_12 c83_12l false := rgE _ _
def c83_13 : EC := .sq c83_11 c83_12
@[simp] theorem c83_13e : Sq c83_13 c83_11 c83_12 := sqE _ _
def c83_14 : EC := .sq c83_3 c83_13
@[simp] theorem c83_14e : Sq c83_14 c83_3 c83_13 := sqE _ _
def c83_15 : EC := .sq c83_2 c83_14
@[simp] theorem c83_15e : Sq c83_15 c83_2 c83_14 := sqE _ _
def c83_16 : EC := .bk 0 (.lp c83_15)
@[simp] theorem c83_16e : Bk c83_16 0 (.lp c83_15) := bkE _ _
def c83_17 : EC := .sq c83_1 c83_16
@[simp] theorem c83_17e : Sq c83_17 c83_1 c83_16 := sqE _ _
@[simp] def c83_18l : List EO := [m 35 0,
 o 36 .lenL [t 35],
 o 37 (.bin .leq) [t 36, i 200],
 m 4 37]
def c83_18 : EC := .rg c83_18l false
@[simp] theorem c83_18e : Rg c83_18 c83_18l false := rgE _ _
def c83_19 : EC := .sq c83_18 .rt
@[simp] theorem c83_19e : Sq c83_19 c83_18 .rt := sqE _ _
def c83_20 : EC := .sq c83_17 c83_19
@[simp] theorem c83_20e : Sq c83_20 c83_17 c83_19 := sqE _ _
def c83_21 : EC := .sq c83_0 c83_20
@[simp] theorem c83_21e : Sq c83_21 c83_0 c83_20 := sqE _ _
def c_chart_Valid_83 : EC := c83_21
theorem k_83 : ecF Try.prog 83 = some (38, c_chart_Valid_83, [.tm 4]) := by kernel_rfl

/-- slices.ContainsFunc[[]tallystone/api.Account,tallystone/api.Account] -/
@[simp] def c84_0l : List EO := [o 4 .mv [b false]]
def c84_0 : EC := .rg c84_0l false
@[simp] theorem c84_0e : Rg c84_0 c84_0l false := rgE _ _
@[simp] def c84_1l : List EO := [m 5 0,
 m 6 1,
 o 7 (.call 56) [t 5, t 6],
 o 8 (.bin .geq) [t 7, i 0],
 m 4 8]
def c84_1 : EC := .rg c84_1l false
@[simp] theorem c84_1e : Rg c84_1 c84_1l false := rgE _ _
def c84_2 : EC := .sq c84_1 .rt
@[simp] theorem c84_2e : Sq c84_2 c84_1 .rt := sqE _ _
def c84_3 : EC := .sq c84_0 c84_2
@[simp] theorem c84_3e : Sq c84_3 c84_0 c84_2 := sqE _ _
def c_api_Account__84 : EC := c84_3
theorem k_84 : ecF Try.prog 84 = some (9, c_api_Account__84, [.tm 4]) := by kernel_rfl

/-- tallystone/group.accounts$1 -/
@[simp] def c85_0l : List EO := [o 1 .box [t 0],
 o 2 .mv [b false]]
def c85_0 : EC := .rg c85_0l false
@[simp] theorem c85_0e : Rg c85_0 c85_0l false := rgE _ _
@[simp] def c85_1l : List EO := [o 3 (.load 4 true) [t 1],
 o 4 (.call 86) [t 3],
 o 5 (.un .not) [t 4],
 m 2 5]
def c85_1 : EC := .rg c85_1l false
@[simp] theorem c85_1e : Rg c85_1 c85_1l false := rgE _ _
def c85_2 : EC := .sq c85_1 .rt
@[simp] theorem c85_2e : Sq c85_2 c85_1 .rt := sqE _ _
def c85_3 : EC := .sq c85_0 c85_2
@[simp] theorem c85_3e : Sq c85_3 c85_0 c85_2 := sqE _ _
def c_group_accountsS1_85 : EC := c85_3
theorem k_85 : ecF Try.prog 85 = some (6, c_group_accountsS1_85, [.tm 2]) := by kernel_rfl

/-- tallystone/group.based -/
@[simp] def c86_0l : List EO := [o 1 .box [t 0],
 o 2 .mv [b false]]
def c86_0 : EC := .rg c86_0l false
@[simp] theorem c86_0e : Rg c86_0 c86_0l false := rgE _ _
@[simp] def c86_1l : List EO := [o 3 (.faddr 1) [t 1],
 o 4 (.load 1 false) [t 3]]
def c86_1 : EC := .rg c86_1l false
@[simp] theorem c86_1e : Rg c86_1 c86_1l false := rgE _ _
@[simp] def c86_2l : List EO := [o 6 (.bin .eql) [t 4, i 1],
 m 5 6]
def c86_2 : EC := .rg c86_2l false
@[simp] theorem c86_2e : Rg c86_2 c86_2l false := rgE _ _
@[simp] def c86_3l : List EO := [o 7 (.bin .eql) [t 4, i 2],
 m 5 7]
def c86_3 : EC := .rg c86_3l false
@[simp] theorem c86_3e : Rg c86_3 c86_3l false := rgE _ _
def c86_4 : EC := .cd (t 5) .skip c86_3
@[simp] theorem c86_4e : Cd c86_4 (t 5) .skip c86_3 := cdE _ _ _
def c86_5 : EC := .sq c86_2 c86_4
@[simp] theorem c86_5e : Sq c86_5 c86_2 c86_4 := sqE _ _
@[simp] def c86_6l : List EO := [o 8 (.faddr 2) [t 1],
 o 9 (.load 1 false) [t 8],
 o 10 (.bin .eql) [t 9, i 1],
 m 11 10,
 n 12 11 (.faddr 2) [t 1],
 n 13 11 (.load 1 false) [t 12],
 n 14 11 (.bin .eql) [t 13, i 3],
 o 15 .pick [t 11, b true, t 14],
 m 2 15]
def c86_6 : EC := .rg c86_6l false
@[simp] theorem c86_6e : Rg c86_6 c86_6l false := rgE _ _
def c86_7 : EC := .sq c86_6 .rt
@[simp] theorem c86_7e : Sq c86_7 c86_6 .rt := sqE _ _
@[simp] def c86_8l : List EO := [o 17 (.bin .eql) [t 4, i 3],
 m 16 17]
def c86_8 : EC := .rg c86_8l false
@[simp] theorem c86_8e : Rg c86_8 c86_8l false := rgE _ _
@[simp] def c86_9l : List EO := [o 18 (.faddr 2) [t 1],
 o 19 (.load 1 false) [t 18],
 o 20 (.bin .eql) [t 19, i 3],
 m 2 20]
def c86_9 : EC := .rg c86_9l false
@[simp] theorem c86_9e : Rg c86_9 c86_9l false := rgE _ _
def c86_10 : EC := .sq c86_9 .rt
@[simp] theorem c86_10e : Sq c86_10 c86_9 .rt := sqE _ _
def c86_11 : EC := .cd (t 16) c86_10 .skip
@[simp] theorem c86_11e : Cd c86_11 (t 16) c86_10 .skip := cdE _ _ _
def c86_12 : EC := .sq c86_8 c86_11
@[simp] theorem c86_12e : Sq c86_12 c86_8 c86_11 := sqE _ _
def c86_13 : EC := .cd (t 5) c86_7 c86_12
@[simp] theorem c86_13e : Cd c86_13 (t 5) c86_7 c86_12 := cdE _ _ _
def c86_14 : EC := .sq c86_5 c86_13
@[simp] theorem c86_14e : Sq c86_14 c86_5 c86_13 := sqE _ _
def c86_15 : EC := .bk 0 c86_14
@[simp] theorem c86_15e : Bk c86_15 0 c86_14 := bkE _ _
def c86_16 : EC := .sq c86_1 c86_15
@[simp] theorem c86_16e : Sq c86_16 c86_1 c86_15 := sqE _ _
@[simp] def c86_17l : List EO := [o 21 (.faddr 2) [t 1],
 o 22 (.load 1 false) [t 21],
 o 23 (.bin .eql) [t 22, i 2],
 m 2 23]
def c86_17 : EC := .rg c86_17l false
@[simp] theorem c86_17e : Rg c86_17 c86_17l false := rgE _ _
def c86_18 : EC := .sq c86_17 .rt
@[simp] theorem c86_18e : Sq c86_18 c86_17 .rt := sqE _ _
def c86_19 : EC := .sq c86_16 c86_18
@[simp] theorem c86_19e : Sq c86_19 c86_16 c86_18 := sqE _ _
def c86_20 : EC := .sq c86_0 c86_19
@[simp] theorem c86_20e : Sq c86_20 c86_0 c86_19 := sqE _ _
def c_group_based_86 : EC := c86_20
theorem k_86 : ecF Try.prog 86 = some (24, c_group_based_86, [.tm 2]) := by kernel_rfl

/-- tallystone/group.roles -/
@[simp] def c87_0l : List EO := [o 1 .box [t 0],
 o 2 .mv [c (.snil)]]
def c87_0 : EC := .rg c87_0l false
@[simp] theorem c87_0e : Rg c87_0 c87_0l false := rgE _ _
@[simp] def c87_1l : List EO := [o 3 (.faddr 0) [t 1],
 o 4 (.load 1 false) [t 3],
 o 5 (.build [.t (.str []), .t (.int .i64 0), .t (.int .i64 0), .t (.int .i64 0), .t (.bool false)] [(0, 1), (1, 1), (2, 1), (3, 1), (4, 1)]) [c (.t (.str [105, 110, 118, 101, 115, 116, 109, 101, 110, 116])), t 4, i 1, i 3, b true],
 o 6 (.faddr 1) [t 1],
 o 7 (.load 1 false) [t 6],
 o 8 (.build [.t (.str []), .t (.int .i64 0), .t (.int .i64 0), .t (.int .i64 0), .t (.bool false)] [(0, 1), (1, 1), (2, 1), (3, 1), (4, 1)]) [c (.t (.str [103, 111, 111, 100, 119, 105, 108, 108])), t 7, i 1, i 3, b false],
 o 9 (.faddr 2) [t 1],
 o 10 (.load 1 false) [t 9],
 o 11 (.build [.t (.str []), .t (.int .i64 0), .t (.int .i64 0), .t (.int .i64 0), .t (.bool false)] [(0, 1), (1, 1), (2, 1), (3, 1), (4, 1)]) [c (.t (.str [97, 115, 115, 111, 99, 105, 97, 116, 101, 115])), t 10, i 1, i 3, b false],
 o 12 (.faddr 3) [t 1],
 o 13 (.load 1 false) [t 12],
 o 14 (.build [.t (.str []), .t (.int .i64 0), .t (.int .i64 0), .t (.int .i64 0), .t (.bool false)] [(0, 1), (1, 1), (2, 1), (3, 1), (4, 1)]) [c (.t (.str [105, 110, 118, 101, 110, 116, 111, 114, 121])), t 13, i 1, i 1, b true],
 o 15 (.faddr 4) [t 1],
 o 16 (.load 1 false) [t 15],
 o 17 (.build [.t (.str []), .t (.int .i64 0), .t (.int .i64 0), .t (.int .i64 0), .t (.bool false)] [(0, 1), (1, 1), (2, 1), (3, 1), (4, 1)]) [c (.t (.str [114, 101, 115, 101, 114, 118, 101])), t 16, i 3, i 3, b false],
 o 18 (.faddr 5) [t 1],
 o 19 (.load 1 false) [t 18],
 o 20 (.build [.t (.str []), .t (.int .i64 0), .t (.int .i64 0), .t (.int .i64 0), .t (.bool false)] [(0, 1), (1, 1), (2, 1), (3, 1), (4, 1)]) [c (.t (.str [109, 105, 110, 111, 114, 105, 116, 121])), t 19, i 3, i 3, b false],
 o 21 (.faddr 6) [t 1],
 o 22 (.load 1 false) [t 21],
 o 23 (.build [.t (.str []), .t (.int .i64 0), .t (.int .i64 0), .t (.int .i64 0), .t (.bool false)] [(0, 1), (1, 1), (2, 1), (3, 1), (4, 1)]) [c (.t (.str [114, 101, 116, 97, 105, 110, 101, 100])), t 22, i 3, i 3, b true],
 o 24 (.faddr 7) [t 1],
 o 25 (.load 1 false) [t 24],
 o 26 (.build [.t (.str []), .t (.int .i64 0), .t (.int .i64 0), .t (.int .i64 0), .t (.bool false)] [(0, 1), (1, 1), (2, 1), (3, 1), (4, 1)]) [c (.t (.str [97, 99, 113, 117, 105, 114, 101, 100])), t 25, i 3, i 3, b false],
 o 27 (.faddr 8) [t 1],
 o 28 (.load 1 false) [t 27],
 o 29 (.build [.t (.str []), .t (.int .i64 0), .t (.int .i64 0), .t (.int .i64 0), .t (.bool false)] [(0, 1), (1, 1), (2, 1), (3, 1), (4, 1)]) [c (.t (.str [111, 119, 110, 101, 114, 115])), t 28, i 3, i 3, b false],
 o 30 (.faddr 9) [t 1],
 o 31 (.load 1 false) [t 30],
 o 32 (.build [.t (.str []), .t (.int .i64 0), .t (.int .i64 0), .t (.int .i64 0), .t (.bool false)] [(0, 1), (1, 1), (2, 1), (3, 1), (4, 1)]) [c (.t (.str [100, 105, 115, 112, 111, 115, 97, 108])), t 31, i 4, i 2, b false],
 o 33 (.faddr 10) [t 1],
 o 34 (.load 1 false) [t 33],
 o 35 (.build [.t (.str []), .t (.int .i64 0), .t (.int .i64 0), .t (.int .i64 0), .t (.bool false)] [(0, 1), (1, 1), (2, 1), (3, 1), (4, 1)]) [c (.t (.str [97, 115, 115, 111, 99, 105, 97, 116, 101, 80, 114, 111, 102, 105, 116])), t 34, i 4, i 2, b false],
 o 36 (.faddr 11) [t 1],
 o 37 (.load 1 false) [t 36],
 o 38 (.build [.t (.str []), .t (.int .i64 0), .t (.int .i64 0), .t (.int .i64 0), .t (.bool false)] [(0, 1), (1, 1), (2, 1), (3, 1), (4, 1)]) [c (.t (.str [100, 105, 118, 105, 100, 101, 110, 100, 115])), t 37, i 4, i 2, b true],
 o 39 (.faddr 12) [t 1],
 o 40 (.load 1 false) [t 39],
 o 41 (.build [.t (.str []), .t (.int .i64 0), .t (.int .i64 0), .t (.int .i64 0), .t (.bool false)] [(0, 1), (1, 1), (2, 1), (3, 1), (4, 1)]) [c (.t (.str [109, 105, 110, 111, 114, 105, 116, 121, 80, 114, 111, 102, 105, 116])), t 40, i 5, i 2, b false],
 o 42 (.faddr 13) [t 1],
 o 43 (.load 1 false) [t 42],
 o 44 (.build [.t (.str []), .t (.int .i64 0), .t (.int .i64 0), .t (.int .i64 0), .t (.bool false)] [(0, 1), (1, 1), (2, 1), (3, 1), (4, 1)]) [c (.t (.str [100, 105, 102, 102, 101, 114, 101, 110, 99, 101])), t 43, i 5, i 2, b false],
 o 45 (.faddr 14) [t 1],
 o 46 (.load 1 false) [t 45],
 o 47 (.build [.t (.str []), .t (.int .i64 0), .t (.int .i64 0), .t (.int .i64 0), .t (.bool false)] [(0, 1), (1, 1), (2, 1), (3, 1), (4, 1)]) [c (.t (.str [109, 97, 114, 103, 105, 110])), t 46, i 5, i 2, b false],
 o 48 (.bsl 5) [t 5, t 8, t 11, t 14, t 17, t 20, t 23, t 26, t 29, t 32, t 35, t 38, t 41, t 44, t 47],
 m 2 48]
def c87_1 : EC := .rg c87_1l false
@[simp] theorem c87_1e : Rg c87_1 c87_1l false := rgE _ _
def c87_2 : EC := .sq c87_1 .rt
@[simp] theorem c87_2e : Sq c87_2 c87_1 .rt := sqE _ _
def c87_3 : EC := .sq c87_0 c87_2
@[simp] theorem c87_3e : Sq c87_3 c87_0 c87_2 := sqE _ _
def c_group_roles_87 : EC := c87_3
theorem k_87 : ecF Try.prog 87 = some (49, c_group_roles_87, [.tm 2]) := by kernel_rfl

/-- tallystone/chart.Find -/
@[simp] def c88_0l : List EO := [o 4 (.alloc [.t (.int .i64 0), .t (.int .i64 0), .t (.int .i64 0), .t (.int .i64 0)]) [],
 o 5 .mv [b false]]
def c88_0 : EC := .rg c88_0l false
@[simp] theorem c88_0e : Rg c88_0 c88_0l false := rgE _ _
@[simp] def c88_1l : List EO := [m 8 0,
 o 9 .lenL [t 8],
 o 10 .mv [i 0]]
def c88_1 : EC := .rg c88_1l false
@[simp] theorem c88_1e : Rg c88_1 c88_1l false := rgE _ _
@[simp] def c88_2l : List EO := [o 11 (.bin .lss) [t 10, t 9]]
def c88_2 : EC := .rg c88_2l false
@[simp] theorem c88_2e : Rg c88_2 c88_2l false := rgE _ _
def c88_3 : EC := .cd (t 11) .skip (.ex 0)
@[simp] theorem c88_3e : Cd c88_3 (t 11) .skip (.ex 0) := cdE _ _ _
@[simp] def c88_4l : List EO := [o 12 (.iaS 4) [t 8, t 10],
 o 13 (.load 4 true) [t 12],
 o 7 (.alloc [.t (.int .i64 0), .t (.int .i64 0), .t (.int .i64 0), .t (.int .i64 0)]) [],
 u (.store 4) [t 7, t 13]]
def c88_4 : EC := .rg c88_4l false
@[simp] theorem c88_4e : Rg c88_4 c88_4l false := rgE _ _
@[simp] def c88_5l : List EO := [o 14 (.faddr 0) [t 7],
 o 15 (.load 1 false) [t 14],
 m 16 1,
 o 17 (.bin .eql) [t 15, t 16]]
def c88_5 : EC := .rg c88_5l false
@[simp] theorem c88_5e : Rg c88_5 c88_5l false := rgE _ _
@[simp] def c88_6l : List EO := [o 18 (.load 4 true) [t 7],
 u (.store 4) [t 4, t 18],
 o 5 .mv [b true]]
def c88_6 : EC := .rg c88_6l false
@[simp] theorem c88_6e : Rg c88_6 c88_6l false := rgE _ _
def c88_7 : EC := .sq c88_6 .rt
@[simp] theorem c88_7e : Sq c88_7 c88_6 .rt := sqE _ _
def c88_8 : EC := .cd (t 17) c88_7 .skip
@[simp] theorem c88_8e : Cd c88_8 (t 17) c88_7 .skip := cdE _ _ _
def c88_9 : EC := .sq c88_5 c88_8
@[simp] theorem c88_9e : Sq c88_9 c88_5 c88_8 := sqE _ _
def c88_10 : EC := .sq c88_4 c88_9
@[simp] theorem c88_10e : Sq c88_10 c88_4 c88_9 := sqE _ _
def c88_11 : EC := .bk 1 c88_10
@[simp] theorem c88_11e : Bk c88_11 1 c88_10 := bkE _ _
@[simp] def c88_12l : List EO := [o 19 (.bin .add) [t 10, i 1],
 m 10 19]
def c88_12 : EC := .rg c88_12l false
@[simp] theorem c88_12e : Rg c88_12 c88_12l false := rgE _ _
def c88_13 : EC := .sq c88_11 c88_12
@[simp] theorem c88_13e : Sq c88_13 c88_11 c88_12 := sqE _ _
def c88_14 : EC := .sq c88_3 c88_13
@[simp] theorem c88_14e : Sq c88_14 c88_3 c88_13 := sqE _ _
def c88_15 : EC := .sq c88_2 c88_14
@[simp] theorem c88_15e : Sq c88_15 c88_2 c88_14 := sqE _ _
def c88_16 : EC := .bk 0 (.lp c88_15)
@[simp] theorem c88_16e : Bk c88_16 0 (.lp c88_15) := bkE _ _
def c88_17 : EC := .sq c88_1 c88_16
@[simp] theorem c88_17e : Sq c88_17 c88_1 c88_16 := sqE _ _
@[simp] def c88_18l : List EO := [o 20 (.build [.t (.int .i64 0), .t (.int .i64 0), .t (.int .i64 0), .t (.int .i64 0)] []) [],
 u (.store 4) [t 4, t 20],
 o 5 .mv [b false]]
def c88_18 : EC := .rg c88_18l false
@[simp] theorem c88_18e : Rg c88_18 c88_18l false := rgE _ _
def c88_19 : EC := .sq c88_18 .rt
@[simp] theorem c88_19e : Sq c88_19 c88_18 .rt := sqE _ _
def c88_20 : EC := .sq c88_17 c88_19
@[simp] theorem c88_20e : Sq c88_20 c88_17 c88_19 := sqE _ _
def c88_21 : EC := .sq c88_0 c88_20
@[simp] theorem c88_21e : Sq c88_21 c88_0 c88_20 := sqE _ _
def c_chart_Find_88 : EC := c88_21
theorem k_88 : ecF Try.prog 88 = some (21, c_chart_Find_88, [.ce 4 4 true, .tm 5]) := by kernel_rfl

/-- tallystone/group.name -/
@[simp] def c89_0l : List EO := [o 2 .mv [b false]]
def c89_0 : EC := .rg c89_0l false
@[simp] theorem c89_0e : Rg c89_0 c89_0l false := rgE _ _
@[simp] def c89_1l : List EO := [m 5 0,
 o 6 .lenS [t 5],
 o 7 .mv [i 0]]
def c89_1 : EC := .rg c89_1l false
@[simp] theorem c89_1e : Rg c89_1 c89_1l false := rgE _ _
@[simp] def c89_2l : List EO := [o 8 (.bin .lss) [t 7, t 6]]
def c89_2 : EC := .rg c89_2l false
@[simp] theorem c89_2e : Rg c89_2 c89_2l false := rgE _ _
def c89_3 : EC := .cd (t 8) .skip (.ex 0)
@[simp] theorem c89_3e : Cd c89_3 (t 8) .skip (.ex 0) := cdE _ _ _
@[simp] def c89_4l : List EO := [m 9 7,
 m 3 9]
def c89_4 : EC := .rg c89_4l false
@[simp] theorem c89_4e : Rg c89_4 c89_4l false := rgE _ _
@[simp] def c89_5l : List EO := [m 10 0,
 m 11 3,
 o 12 .ixS [t 10, t 11],
 m 4 12]
def c89_5 : EC := .rg c89_5l false
@[simp] theorem c89_5e : Rg c89_5 c89_5l false := rgE _ _
@[simp] def c89_6l : List EO := [m 13 4,
 o 14 (.call 98) [t 13],
 o 15 (.un .not) [t 14],
 m 16 15,
 y 17 16 .mv [t 3],
 y 18 16 (.bin .eql) [t 17, i 0],
 y 19 16 .mv [t 18],
 n 20 19 .mv [t 4],
 n 21 19 (.bin .neq) [t 20, c (.t (.int .u8 45))],
 n 22 19 .mv [t 21],
 y 23 22 .mv [t 4],
 y 24 22 (.bin .lss) [t 23, c (.t (.int .u8 48))],
 y 25 22 .mv [t 24],
 n 26 25 .mv [t 4],
 n 27 25 (.bin .gtr) [t 26, c (.t (.int .u8 57))],
 y 28 22 .pick [t 25, b true, t 27],
 n 29 19 .pick [t 22, t 28, b false],
 y 30 16 .pick [t 19, b true, t 29],
 o 31 .pick [t 16, t 30, b false]]
def c89_6 : EC := .rg c89_6l false
@[simp] theorem c89_6e : Rg c89_6 c89_6l false := rgE _ _
@[simp] def c89_7l : List EO := [o 2 .mv [b false]]
def c89_7 : EC := .rg c89_7l false
@[simp] theorem c89_7e : Rg c89_7 c89_7l false := rgE _ _
def c89_8 : EC := .sq c89_7 .rt
@[simp] theorem c89_8e : Sq c89_8 c89_7 .rt := sqE _ _
def c89_9 : EC := .cd (t 31) c89_8 .skip
@[simp] theorem c89_9e : Cd c89_9 (t 31) c89_8 .skip := cdE _ _ _
def c89_10 : EC := .sq c89_6 c89_9
@[simp] theorem c89_10e : Sq c89_10 c89_6 c89_9 := sqE _ _
def c89_11 : EC := .sq c89_5 c89_10
@[simp] theorem c89_11e : Sq c89_11 c89_5 c89_10 := sqE _ _
def c89_12 : EC := .sq c89_4 c89_11
@[simp] theorem c89_12e : Sq c89_12 c89_4 c89_11 := sqE _ _
def c89_13 : EC := .bk 1 c89_12
@[simp] theorem c89_13e : Bk c89_13 1 c89_12 := bkE _ _
@[simp] def c89_14l : List EO := [o 32 (.bin .add) [t 7, i 1],
 m 7 32]
def c89_14 : EC := .rg c89_14l false
@[simp] theorem c89_14e : Rg c89_14 c89_14l false := rgE _ _
def c89_15 : EC := .sq c89_13 c89_14
@[simp] theorem c89_15e : Sq c89_15 c89_13 c89_14 := sqE _ _
def c89_16 : EC := .sq c89_3 c89_15
@[simp] theorem c89_16e : Sq c89_16 c89_3 c89_15 := sqE _ _
def c89_17 : EC := .sq c89_2 c89_16
@[simp] theorem c89_17e : Sq c89_17 c89_2 c89_16 := sqE _ _
def c89_18 : EC := .bk 0 (.lp c89_17)
@[simp] theorem c89_18e : Bk c89_18 0 (.lp c89_17) := bkE _ _
def c89_19 : EC := .sq c89_1 c89_18
@[simp] theorem c89_19e : Sq c89_19 c89_1 c89_18 := sqE _ _
@[simp] def c89_20l : List EO := [m 33 0,
 o 34 .lenS [t 33],
 o 35 (.bin .geq) [t 34, i 1],
 m 36 35,
 y 37 36 .mv [t 0],
 y 38 36 .lenS [t 37],
 y 39 36 (.bin .leq) [t 38, i 16],
 o 40 .pick [t 36, t 39, b false],
 m 2 40]
def c89_20 : EC := .rg c89_20l false
@[simp] theorem c89_20e : Rg c89_20 c89_20l false := rgE _ _
def c89_21 : EC := .sq c89_20 .rt
@[simp] theorem c89_21e : Sq c89_21 c89_20 .rt := sqE _ _
def c89_22 : EC := .sq c89_19 c89_21
@[simp] theorem c89_22e : Sq c89_22 c89_19 c89_21 := sqE _ _
def c89_23 : EC := .sq c89_0 c89_22
@[simp] theorem c89_23e : Sq c89_23 c89_0 c89_22 := sqE _ _
def c_group_name_89 : EC := c89_23
theorem k_89 : ecF Try.prog 89 = some (41, c_group_name_89, [.tm 2]) := by kernel_rfl

/-- tallystone/mapping.Valid -/
@[simp] def c90_0l : List EO := [o 2 .box [t 0],
 o 4 .mv [b false]]
def c90_0 : EC := .rg c90_0l false
@[simp] theorem c90_0e : Rg c90_0 c90_0l false := rgE _ _
@[simp] def c90_1l : List EO := [m 9 1,
 o 10 (.call 83) [t 9, b true],
 o 11 (.un .not) [t 10],
 m 12 11,
 n 13 12 (.faddr 2) [t 2],
 n 14 12 (.load 1 false) [t 13],
 n 15 12 (.call 83) [t 14, b false],
 n 16 12 (.un .not) [t 15],
 o 17 .pick [t 12, b true, t 16],
 m 18 17,
 n 19 18 (.faddr 3) [t 2],
 n 20 18 (.load 1 false) [t 19],
 n 21 18 .lenL [t 20],
 n 22 18 (.bin .gtr) [t 21, i 400],
 o 23 .pick [t 18, b true, t 22]]
def c90_1 : EC := .rg c90_1l false
@[simp] theorem c90_1e : Rg c90_1 c90_1l false := rgE _ _
@[simp] def c90_2l : List EO := [o 4 .mv [b false]]
def c90_2 : EC := .rg c90_2l false
@[simp] theorem c90_2e : Rg c90_2 c90_2l false := rgE _ _
def c90_3 : EC := .sq c90_2 .rt
@[simp] theorem c90_3e : Sq c90_3 c90_2 .rt := sqE _ _
def c90_4 : EC := .cd (t 23) c90_3 .skip
@[simp] theorem c90_4e : Cd c90_4 (t 23) c90_3 .skip := cdE _ _ _
def c90_5 : EC := .sq c90_1 c90_4
@[simp] theorem c90_5e : Sq c90_5 c90_1 c90_4 := sqE _ _
@[simp] def c90_6l : List EO := [o 24 .mkmap [],
 m 5 24]
def c90_6 : EC := .rg c90_6l false
@[simp] theorem c90_6e : Rg c90_6 c90_6l false := rgE _ _
@[simp] def c90_7l : List EO := [o 25 (.faddr 3) [t 2],
 o 26 (.load 1 false) [t 25],
 o 27 .lenL [t 26],
 o 28 .mv [i 0]]
def c90_7 : EC := .rg c90_7l false
@[simp] theorem c90_7e : Rg c90_7 c90_7l false := rgE _ _
@[simp] def c90_8l : List EO := [o 29 (.bin .lss) [t 28, t 27]]
def c90_8 : EC := .rg c90_8l false
@[simp] theorem c90_8e : Rg c90_8 c90_8l false := rgE _ _
def c90_9 : EC := .cd (t 29) .skip (.ex 0)
@[simp] theorem c90_9e : Cd c90_9 (t 29) .skip (.ex 0) := cdE _ _ _
@[simp] def c90_10l : List EO := [o 30 (.iaS 3) [t 26, t 28],
 o 31 (.load 3 true) [t 30],
 o 7 (.alloc [.t (.int .i64 0), .t (.int .i64 0), .t (.int .i64 0)]) [],
 u (.store 3) [t 7, t 31]]
def c90_10 : EC := .rg c90_10l false
@[simp] theorem c90_10e : Rg c90_10 c90_10l false := rgE _ _
@[simp] def c90_11l : List EO := [o 32 (.faddr 0) [t 7],
 o 33 (.load 1 false) [t 32],
 o 34 (.faddr 2) [t 7],
 o 35 (.load 1 false) [t 34],
 o 36 (.build [.t (.int .i64 0), .t (.int .i64 0), .t (.int .i64 0)] [(0, 1), (2, 1)]) [t 33, t 35],
 o 8 (.alloc [.t (.int .i64 0), .t (.int .i64 0), .t (.int .i64 0)]) [],
 u (.store 3) [t 8, t 36]]
def c90_11 : EC := .rg c90_11l false
@[simp] theorem c90_11e : Rg c90_11 c90_11l false := rgE _ _
@[simp] def c90_12l : List EO := [m 37 5,
 o 38 (.load 3 true) [t 8],
 o 39 (.lkp true [1, 1, 1] false false [.t (.bool false)]) [t 37, t 38],
 m 40 39,
 n 41 40 (.load 5 true) [t 2],
 n 42 40 .mv [t 1],
 n 43 40 (.load 3 true) [t 7],
 n 44 40 (.call 99) [t 41, t 42, t 43],
 n 45 40 (.un .not) [t 44],
 o 46 .pick [t 40, b true, t 45]]
def c90_12 : EC := .rg c90_12l false
@[simp] theorem c90_12e : Rg c90_12 c90_12l false := rgE _ _
@[simp] def c90_13l : List EO := [o 4 .mv [b false]]
def c90_13 : EC := .rg c90_13l false
@[simp] theorem c90_13e : Rg c90_13 c90_13l false := rgE _ _
def c90_14 : EC := .sq c90_13 .rt
@[simp] theorem c90_14e : Sq c90_14 c90_13 .rt := sqE _ _
def c90_15 : EC := .cd (t 46) c90_14 .skip
@[simp] theorem c90_15e : Cd c90_15 (t 46) c90_14 .skip := cdE _ _ _
def c90_16 : EC := .sq c90_12 c90_15
@[simp] theorem c90_16e : Sq c90_16 c90_12 c90_15 := sqE _ _
@[simp] def c90_17l : List EO := [m 47 5,
 o 48 (.load 3 true) [t 8],
 u (.mup true [1, 1, 1]) [t 47, t 48, b true]]
def c90_17 : EC := .rg c90_17l false
@[simp] theorem c90_17e : Rg c90_17 c90_17l false := rgE _ _
def c90_18 : EC := .sq c90_16 c90_17
@[simp] theorem c90_18e : Sq c90_18 c90_16 c90_17 := sqE _ _
def c90_19 : EC := .sq c90_11 c90_18
@[simp] theorem c90_19e : Sq c90_19 c90_11 c90_18 := sqE _ _
def c90_20 : EC := .sq c90_10 c90_19
@[simp] theorem c90_20e : Sq c90_20 c90_10 c90_19 := sqE _ _
def c90_21 : EC := .bk 1 c90_20
@[simp] theorem c90_21e : Bk c90_21 1 c90_20 := bkE _ _
@[simp] def c90_22l : List EO := [o 49 (.bin .add) [t 28, i 1],
 m 28 49]
def c90_22 : EC := .rg c90_22l false
@[simp] theorem c90_22e : Rg c90_22 c90_22l false := rgE _ _
def c90_23 : EC := .sq c90_21 c90_22
@[simp] theorem c90_23e : Sq c90_23 c90_21 c90_22 := sqE _ _
def c90_24 : EC := .sq c90_9 c90_23
@[simp] theorem c90_24e : Sq c90_24 c90_9 c90_23 := sqE _ _
def c90_25 : EC := .sq c90_8 c90_24
@[simp] theorem c90_25e : Sq c90_25 c90_8 c90_24 := sqE _ _
def c90_26 : EC := .bk 0 (.lp c90_25)
@[simp] theorem c90_26e : Bk c90_26 0 (.lp c90_25) := bkE _ _
def c90_27 : EC := .sq c90_7 c90_26
@[simp] theorem c90_27e : Sq c90_27 c90_7 c90_26 := sqE _ _
@[simp] def c90_28l : List EO := [o 4 .mv [b true]]
def c90_28 : EC := .rg c90_28l false
@[simp] theorem c90_28e : Rg c90_28 c90_28l false := rgE _ _
def c90_29 : EC := .sq c90_28 .rt
@[simp] theorem c90_29e : Sq c90_29 c90_28 .rt := sqE _ _
def c90_30 : EC := .sq c90_27 c90_29
@[simp] theorem c90_30e : Sq c90_30 c90_27 c90_29 := sqE _ _
def c90_31 : EC := .sq c90_6 c90_30
@[simp] theorem c90_31e : Sq c90_31 c90_6 c90_30 := sqE _ _
def c90_32 : EC := .sq c90_5 c90_31
@[simp] theorem c90_32e : Sq c90_32 c90_5 c90_31 := sqE _ _
def c90_33 : EC := .sq c90_0 c90_32
@[simp] theorem c90_33e : Sq c90_33 c90_0 c90_32 := sqE _ _
def c_mapping_Valid_90 : EC := c90_33
theorem k_90 : ecF Try.prog 90 = some (50, c_mapping_Valid_90, [.tm 4]) := by kernel_rfl

/-- slices.ContainsFunc[[]tallystone/api.Link,tallystone/api.Link] -/
@[simp] def c91_0l : List EO := [o 4 .mv [b false]]
def c91_0 : EC := .rg c91_0l false
@[simp] theorem c91_0e : Rg c91_0 c91_0l false := rgE _ _
@[simp] def c91_1l : List EO := [m 5 0,
 m 6 1,
 o 7 (.call 100) [t 5, t 6],
 o 8 (.bin .geq) [t 7, i 0],
 m 4 8]
def c91_1 : EC := .rg c91_1l false
@[simp] theorem c91_1e : Rg c91_1 c91_1l false := rgE _ _
def c91_2 : EC := .sq c91_1 .rt
@[simp] theorem c91_2e : Sq c91_2 c91_1 .rt := sqE _ _
def c91_3 : EC := .sq c91_0 c91_2
@[simp] theorem c91_3e : Sq c91_3 c91_0 c91_2 := sqE _ _
def c_api_Link__91 : EC := c91_3
theorem k_91 : ecF Try.prog 91 = some (9, c_api_Link__91, [.tm 4]) := by kernel_rfl

/-- tallystone/group.entity$1 -/
@[simp] def c92_0l : List EO := [o 2 .box [t 0],
 o 3 .mv [b false]]
def c92_0 : EC := .rg c92_0l false
@[simp] theorem c92_0e : Rg c92_0 c92_0l false := rgE _ _
@[simp] def c92_1l : List EO := [o 4 (.load 1 false) [t 1],
 o 5 (.faddr 1) [t 2],
 o 6 (.load 1 false) [t 5],
 o 7 (.lkp false [1] false false [.t (.bool false)]) [t 4, t 6],
 m 3 7]
def c92_1 : EC := .rg c92_1l false
@[simp] theorem c92_1e : Rg c92_1 c92_1l false := rgE _ _
def c92_2 : EC := .sq c92_1 .rt
@[simp] theorem c92_2e : Sq c92_2 c92_1 .rt := sqE _ _
def c92_3 : EC := .sq c92_0 c92_2
@[simp] theorem c92_3e : Sq c92_3 c92_0 c92_2 := sqE _ _
def c_group_entityS1_92 : EC := c92_3
theorem k_92 : ecF Try.prog 92 = some (8, c_group_entityS1_92, [.tm 3]) := by kernel_rfl

/-- tallystone/date.Of -/
@[simp] def c93_0l : List EO := [o 6 .mv [i 0],
 o 7 .mv [i 0]]
def c93_0 : EC := .rg c93_0l false
@[simp] theorem c93_0e : Rg c93_0 c93_0l false := rgE _ _
@[simp] def c93_1l : List EO := [m 10 2,
 o 11 (.bin .lss) [t 10, i 1],
 m 12 11,
 n 13 12 .mv [t 2],
 n 14 12 .mv [t 0],
 n 15 12 .mv [t 1],
 n 16 12 (.call 79) [t 14, t 15],
 n 17 12 (.bin .gtr) [t 13, t 16],
 o 18 .pick [t 12, b true, t 17]]
def c93_1 : EC := .rg c93_1l false
@[simp] theorem c93_1e : Rg c93_1 c93_1l false := rgE _ _
@[simp] def c93_2l : List EO := [o 6 .mv [i 0],
 o 7 .mv [i 2]]
def c93_2 : EC := .rg c93_2l false
@[simp] theorem c93_2e : Rg c93_2 c93_2l false := rgE _ _
def c93_3 : EC := .sq c93_2 .rt
@[simp] theorem c93_3e : Sq c93_3 c93_2 .rt := sqE _ _
def c93_4 : EC := .cd (t 18) c93_3 .skip
@[simp] theorem c93_4e : Cd c93_4 (t 18) c93_3 .skip := cdE _ _ _
def c93_5 : EC := .sq c93_1 c93_4
@[simp] theorem c93_5e : Sq c93_5 c93_1 c93_4 := sqE _ _
@[simp] def c93_6l : List EO := [m 19 0,
 o 20 (.call 95) [t 19],
 m 21 2,
 o 22 (.bin .add) [t 20, t 21],
 o 23 (.bin .sub) [t 22, i 1],
 m 8 23]
def c93_6 : EC := .rg c93_6l false
@[simp] theorem c93_6e : Rg c93_6 c93_6l false := rgE _ _
@[simp] def c93_7l : List EO := [o 9 .mv [i 1]]
def c93_7 : EC := .rg c93_7l false
@[simp] theorem c93_7e : Rg c93_7 c93_7l false := rgE _ _
@[simp] def c93_8l : List EO := [m 24 9,
 m 25 1,
 o 26 (.bin .lss) [t 24, t 25]]
def c93_8 : EC := .rg c93_8l false
@[simp] theorem c93_8e : Rg c93_8 c93_8l false := rgE _ _
def c93_9 : EC := .cd (t 26) .skip (.ex 0)
@[simp] theorem c93_9e : Cd c93_9 (t 26) .skip (.ex 0) := cdE _ _ _
def c93_10 : EC := .sq c93_8 c93_9
@[simp] theorem c93_10e : Sq c93_10 c93_8 c93_9 := sqE _ _
@[simp] def c93_11l : List EO := [m 29 8,
 m 30 0,
 m 31 9,
 o 32 (.call 79) [t 30, t 31],
 o 33 (.bin .add) [t 29, t 32],
 m 8 33]
def c93_11 : EC := .rg c93_11l false
@[simp] theorem c93_11e : Rg c93_11 c93_11l false := rgE _ _
def c93_12 : EC := .bk 1 c93_11
@[simp] theorem c93_12e : Bk c93_12 1 c93_11 := bkE _ _
@[simp] def c93_13l : List EO := [m 27 9,
 o 28 (.bin .add) [t 27, i 1],
 m 9 28]
def c93_13 : EC := .rg c93_13l false
@[simp] theorem c93_13e : Rg c93_13 c93_13l false := rgE _ _
def c93_14 : EC := .sq c93_12 c93_13
@[simp] theorem c93_14e : Sq c93_14 c93_12 c93_13 := sqE _ _
def c93_15 : EC := .sq c93_10 c93_14
@[simp] theorem c93_15e : Sq c93_15 c93_10 c93_14 := sqE _ _
def c93_16 : EC := .bk 0 (.lp c93_15)
@[simp] theorem c93_16e : Bk c93_16 0 (.lp c93_15) := bkE _ _
def c93_17 : EC := .sq c93_7 c93_16
@[simp] theorem c93_17e : Sq c93_17 c93_7 c93_16 := sqE _ _
@[simp] def c93_18l : List EO := [m 34 8,
 m 6 34,
 o 7 .mv [i 0]]
def c93_18 : EC := .rg c93_18l false
@[simp] theorem c93_18e : Rg c93_18 c93_18l false := rgE _ _
def c93_19 : EC := .sq c93_18 .rt
@[simp] theorem c93_19e : Sq c93_19 c93_18 .rt := sqE _ _
def c93_20 : EC := .sq c93_17 c93_19
@[simp] theorem c93_20e : Sq c93_20 c93_17 c93_19 := sqE _ _
def c93_21 : EC := .sq c93_6 c93_20
@[simp] theorem c93_21e : Sq c93_21 c93_6 c93_20 := sqE _ _
def c93_22 : EC := .sq c93_5 c93_21
@[simp] theorem c93_22e : Sq c93_22 c93_5 c93_21 := sqE _ _
def c93_23 : EC := .sq c93_0 c93_22
@[simp] theorem c93_23e : Sq c93_23 c93_0 c93_22 := sqE _ _
def c_date_Of_93 : EC := c93_23
theorem k_93 : ecF Try.prog 93 = some (35, c_date_Of_93, [.tm 6, .tm 7]) := by kernel_rfl

/-- tallystone/date.Valid -/
@[simp] def c94_0l : List EO := [o 2 .mv [b false]]
def c94_0 : EC := .rg c94_0l false
@[simp] theorem c94_0e : Rg c94_0 c94_0l false := rgE _ _
@[simp] def c94_1l : List EO := [m 3 0,
 o 4 (.bin .geq) [t 3, i (-25567)],
 m 5 4,
 y 6 5 .mv [t 0],
 y 7 5 (.bin .leq) [t 6, i 84005],
 o 8 .pick [t 5, t 7, b false],
 m 2 8]
def c94_1 : EC := .rg c94_1l false
@[simp] theorem c94_1e : Rg c94_1 c94_1l false := rgE _ _
def c94_2 : EC := .sq c94_1 .rt
@[simp] theorem c94_2e : Sq c94_2 c94_1 .rt := sqE _ _
def c94_3 : EC := .sq c94_0 c94_2
@[simp] theorem c94_3e : Sq c94_3 c94_0 c94_2 := sqE _ _
def c_date_Valid_94 : EC := c94_3
theorem k_94 : ecF Try.prog 94 = some (9, c_date_Valid_94, [.tm 2]) := by kernel_rfl

/-- tallystone/date.begin -/
@[simp] def c95_0l : List EO := [o 2 .mv [i 0]]
def c95_0 : EC := .rg c95_0l false
@[simp] theorem c95_0e : Rg c95_0 c95_0l false := rgE _ _
@[simp] def c95_1l : List EO := [m 3 0,
 o 4 (.bin .sub) [t 3, i 1],
 m 0 4]
def c95_1 : EC := .rg c95_1l false
@[simp] theorem c95_1e : Rg c95_1 c95_1l false := rgE _ _
@[simp] def c95_2l : List EO := [m 5 0,
 o 6 (.bin .mul) [i 365, t 5],
 m 7 0,
 o 8 (.bin .quo) [t 7, i 4],
 o 9 (.bin .add) [t 6, t 8],
 m 10 0,
 o 11 (.bin .quo) [t 10, i 100],
 o 12 (.bin .sub) [t 9, t 11],
 m 13 0,
 o 14 (.bin .quo) [t 13, i 400],
 o 15 (.bin .add) [t 12, t 14],
 o 16 (.bin .sub) [t 15, i 719162],
 m 2 16]
def c95_2 : EC := .rg c95_2l false
@[simp] theorem c95_2e : Rg c95_2 c95_2l false := rgE _ _
def c95_3 : EC := .sq c95_2 .rt
@[simp] theorem c95_3e : Sq c95_3 c95_2 .rt := sqE _ _
def c95_4 : EC := .sq c95_1 c95_3
@[simp] theorem c95_4e : Sq c95_4 c95_1 c95_3 := sqE _ _
def c95_5 : EC := .sq c95_0 c95_4
@[simp] theorem c95_5e : Sq c95_5 c95_0 c95_4 := sqE _ _
def c_date_begin_95 : EC := c95_5
theorem k_95 : ecF Try.prog 95 = some (17, c_date_begin_95, [.tm 2]) := by kernel_rfl

/-- tallystone/date.leap -/
@[simp] def c96_0l : List EO := [o 2 .mv [b false]]
def c96_0 : EC := .rg c96_0l false
@[simp] theorem c96_0e : Rg c96_0 c96_0l false := rgE _ _
@[simp] def c96_1l : List EO := [m 3 0,
 o 4 (.bin .rem) [t 3, i 4],
 o 5 (.bin .eql) [t 4, i 0],
 m 6 5,
 y 7 6 .mv [t 0],
 y 8 6 (.bin .rem) [t 7, i 100],
 y 9 6 (.bin .neq) [t 8, i 0],
 y 10 6 .mv [t 9],
 n 11 10 .mv [t 0],
 n 12 10 (.bin .rem) [t 11, i 400],
 n 13 10 (.bin .eql) [t 12, i 0],
 y 14 6 .pick [t 10, b true, t 13],
 o 15 .pick [t 6, t 14, b false],
 m 2 15]
def c96_1 : EC := .rg c96_1l false
@[simp] theorem c96_1e : Rg c96_1 c96_1l false := rgE _ _
def c96_2 : EC := .sq c96_1 .rt
@[simp] theorem c96_2e : Sq c96_2 c96_1 .rt := sqE _ _
def c96_3 : EC := .sq c96_0 c96_2
@[simp] theorem c96_3e : Sq c96_3 c96_0 c96_2 := sqE _ _
def c_date_leap_96 : EC := c96_3
theorem k_96 : ecF Try.prog 96 = some (16, c_date_leap_96, [.tm 2]) := by kernel_rfl

/-- tallystone/chart.proper -/
@[simp] def c97_0l : List EO := [o 4 .box [t 1],
 o 6 .mv [b false]]
def c97_0 : EC := .rg c97_0l false
@[simp] theorem c97_0e : Rg c97_0 c97_0l false := rgE _ _
@[simp] def c97_1l : List EO := [o 12 (.faddr 0) [t 4],
 o 13 (.load 1 false) [t 12],
 o 14 (.bin .lss) [t 13, i 1],
 m 15 14,
 n 16 15 (.faddr 0) [t 4],
 n 17 15 (.load 1 false) [t 16],
 n 18 15 (.bin .gtr) [t 17, i 99999],
 o 19 .pick [t 15, b true, t 18],
 m 20 19,
 n 21 20 (.faddr 1) [t 4],
 n 22 20 (.load 1 false) [t 21],
 n 23 20 (.bin .lss) [t 22, i 1],
 o 24 .pick [t 20, b true, t 23],
 m 25 24,
 n 26 25 (.faddr 1) [t 4],
 n 27 25 (.load 1 false) [t 26],
 n 28 25 (.bin .gtr) [t 27, i 5],
 o 29 .pick [t 25, b true, t 28]]
def c97_1 : EC := .rg c97_1l false
@[simp] theorem c97_1e : Rg c97_1 c97_1l false := rgE _ _
@[simp] def c97_2l : List EO := [o 6 .mv [b false]]
def c97_2 : EC := .rg c97_2l false
@[simp] theorem c97_2e : Rg c97_2 c97_2l false := rgE _ _
def c97_3 : EC := .sq c97_2 .rt
@[simp] theorem c97_3e : Sq c97_3 c97_2 .rt := sqE _ _
def c97_4 : EC := .cd (t 29) c97_3 .skip
@[simp] theorem c97_4e : Cd c97_4 (t 29) c97_3 .skip := cdE _ _ _
def c97_5 : EC := .sq c97_1 c97_4
@[simp] theorem c97_5e : Sq c97_5 c97_1 c97_4 := sqE _ _
@[simp] def c97_6l : List EO := [m 30 2,
 m 31 30,
 y 32 31 (.faddr 2) [t 4],
 y 33 31 (.load 1 false) [t 32],
 y 34 31 (.bin .lss) [t 33, i 1],
 y 35 31 .mv [t 34],
 n 36 35 (.faddr 2) [t 4],
 n 37 35 (.load 1 false) [t 36],
 n 38 35 (.bin .gtr) [t 37, i 3],
 y 39 31 .pick [t 35, b true, t 38],
 o 40 .pick [t 31, t 39, b false],
 m 41 40,
 n 42 41 .mv [t 2],
 n 43 41 (.un .not) [t 42],
 n 44 41 .mv [t 43],
 y 45 44 (.faddr 2) [t 4],
 y 46 44 (.load 1 false) [t 45],
 y 47 44 (.bin .neq) [t 46, i 0],
 n 48 41 .pick [t 44, t 47, b false],
 o 49 .pick [t 41, b true, t 48]]
def c97_6 : EC := .rg c97_6l false
@[simp] theorem c97_6e : Rg c97_6 c97_6l false := rgE _ _
@[simp] def c97_7l : List EO := [o 6 .mv [b false]]
def c97_7 : EC := .rg c97_7l false
@[simp] theorem c97_7e : Rg c97_7 c97_7l false := rgE _ _
def c97_8 : EC := .sq c97_7 .rt
@[simp] theorem c97_8e : Sq c97_8 c97_7 .rt := sqE _ _
def c97_9 : EC := .cd (t 49) c97_8 .skip
@[simp] theorem c97_9e : Cd c97_9 (t 49) c97_8 .skip := cdE _ _ _
def c97_10 : EC := .sq c97_6 c97_9
@[simp] theorem c97_10e : Sq c97_10 c97_6 c97_9 := sqE _ _
@[simp] def c97_11l : List EO := [o 50 (.faddr 3) [t 4],
 o 51 (.load 1 false) [t 50],
 o 52 (.bin .eql) [t 51, i 0]]
def c97_11 : EC := .rg c97_11l false
@[simp] theorem c97_11e : Rg c97_11 c97_11l false := rgE _ _
@[simp] def c97_12l : List EO := [o 6 .mv [b true]]
def c97_12 : EC := .rg c97_12l false
@[simp] theorem c97_12e : Rg c97_12 c97_12l false := rgE _ _
def c97_13 : EC := .sq c97_12 .rt
@[simp] theorem c97_13e : Sq c97_13 c97_12 .rt := sqE _ _
def c97_14 : EC := .cd (t 52) c97_13 .skip
@[simp] theorem c97_14e : Cd c97_14 (t 52) c97_13 .skip := cdE _ _ _
def c97_15 : EC := .sq c97_11 c97_14
@[simp] theorem c97_15e : Sq c97_15 c97_11 c97_14 := sqE _ _
@[simp] def c97_16l : List EO := [m 54 0,
 o 55 (.faddr 3) [t 4],
 o 56 (.load 1 false) [t 55],
 o 57 (.call 88) [t 54, t 56],
 m 53 57,
 o 58 (.ext 0) [t 53],
 o 59 (.ext 1) [t 53],
 o 7 (.alloc [.t (.int .i64 0), .t (.int .i64 0), .t (.int .i64 0), .t (.int .i64 0)]) [],
 u (.store 4) [t 7, t 58],
 m 8 59]
def c97_16 : EC := .rg c97_16l false
@[simp] theorem c97_16e : Rg c97_16 c97_16l false := rgE _ _
@[simp] def c97_17l : List EO := [m 60 8,
 o 61 (.un .not) [t 60],
 m 62 61,
 n 63 62 (.faddr 0) [t 7],
 n 64 62 (.load 1 false) [t 63],
 n 65 62 (.faddr 0) [t 4],
 n 66 62 (.load 1 false) [t 65],
 n 67 62 (.bin .eql) [t 64, t 66],
 o 68 .pick [t 62, b true, t 67],
 m 69 68,
 n 70 69 (.faddr 1) [t 7],
 n 71 69 (.load 1 false) [t 70],
 n 72 69 (.faddr 1) [t 4],
 n 73 69 (.load 1 false) [t 72],
 n 74 69 (.bin .neq) [t 71, t 73],
 o 75 .pick [t 69, b true, t 74]]
def c97_17 : EC := .rg c97_17l false
@[simp] theorem c97_17e : Rg c97_17 c97_17l false := rgE _ _
@[simp] def c97_18l : List EO := [o 6 .mv [b false]]
def c97_18 : EC := .rg c97_18l false
@[simp] theorem c97_18e : Rg c97_18 c97_18l false := rgE _ _
def c97_19 : EC := .sq c97_18 .rt
@[simp] theorem c97_19e : Sq c97_19 c97_18 .rt := sqE _ _
def c97_20 : EC := .cd (t 75) c97_19 .skip
@[simp] theorem c97_20e : Cd c97_20 (t 75) c97_19 .skip := cdE _ _ _
def c97_21 : EC := .sq c97_17 c97_20
@[simp] theorem c97_21e : Sq c97_21 c97_17 c97_20 := sqE _ _
@[simp] def c97_22l : List EO := [m 76 0,
 o 77 (.faddr 0) [t 4],
 o 78 (.load 1 false) [t 77],
 o 79 (.call 101) [t 76, t 78],
 m 9 79]
def c97_22 : EC := .rg c97_22l false
@[simp] theorem c97_22e : Rg c97_22 c97_22l false := rgE _ _
@[simp] def c97_23l : List EO := [m 81 0,
 m 82 9,
 m 83 9,
 o 84 .lenL [t 83],
 o 85 (.bin .sub) [t 84, i 1],
 o 86 (.iaS 1) [t 82, t 85],
 o 87 (.load 1 false) [t 86],
 o 88 (.call 88) [t 81, t 87],
 m 80 88,
 o 89 (.ext 0) [t 80],
 o 90 (.ext 1) [t 80],
 o 10 (.alloc [.t (.int .i64 0), .t (.int .i64 0), .t (.int .i64 0), .t (.int .i64 0)]) [],
 u (.store 4) [t 10, t 89],
 m 11 90]
def c97_23 : EC := .rg c97_23l false
@[simp] theorem c97_23e : Rg c97_23 c97_23l false := rgE _ _
@[simp] def c97_24l : List EO := [o 91 (.faddr 3) [t 10],
 o 92 (.load 1 false) [t 91],
 o 93 (.bin .eql) [t 92, i 0],
 m 6 93]
def c97_24 : EC := .rg c97_24l false
@[simp] theorem c97_24e : Rg c97_24 c97_24l false := rgE _ _
def c97_25 : EC := .sq c97_24 .rt
@[simp] theorem c97_25e : Sq c97_25 c97_24 .rt := sqE _ _
def c97_26 : EC := .sq c97_23 c97_25
@[simp] theorem c97_26e : Sq c97_26 c97_23 c97_25 := sqE _ _
def c97_27 : EC := .sq c97_22 c97_26
@[simp] theorem c97_27e : Sq c97_27 c97_22 c97_26 := sqE _ _
def c97_28 : EC := .sq c97_21 c97_27
@[simp] theorem c97_28e : Sq c97_28 c97_21 c97_27 := sqE _ _
def c97_29 : EC := .sq c97_16 c97_28
@[simp] theorem c97_29e : Sq c97_29 c97_16 c97_28 := sqE _ _
def c97_30 : EC := .sq c97_15 c97_29
@[simp] theorem c97_30e : Sq c97_30 c97_15 c97_29 := sqE _ _
def c97_31 : EC := .sq c97_10 c97_30
@[simp] theorem c97_31e : Sq c97_31 c97_10 c97_30 := sqE _ _
def c97_32 : EC := .sq c97_5 c97_31
@[simp] theorem c97_32e : Sq c97_32 c97_5 c97_31 := sqE _ _
def c97_33 : EC := .sq c97_0 c97_32
@[simp] theorem c97_33e : Sq c97_33 c97_0 c97_32 := sqE _ _
def c_chart_proper_97 : EC := c97_33
theorem k_97 : ecF Try.prog 97 = some (94, c_chart_proper_97, [.tm 6]) := by kernel_rfl

/-- tallystone/group.letter -/
@[simp] def c98_0l : List EO := [o 2 .mv [b false]]
def c98_0 : EC := .rg c98_0l false
@[simp] theorem c98_0e : Rg c98_0 c98_0l false := rgE _ _
@[simp] def c98_1l : List EO := [m 3 0,
 o 4 (.bin .geq) [t 3, c (.t (.int .u8 97))],
 m 5 4,
 y 6 5 .mv [t 0],
 y 7 5 (.bin .leq) [t 6, c (.t (.int .u8 122))],
 o 8 .pick [t 5, t 7, b false],
 m 9 8,
 n 10 9 .mv [t 0],
 n 11 9 (.bin .geq) [t 10, c (.t (.int .u8 65))],
 n 12 9 .mv [t 11],
 y 13 12 .mv [t 0],
 y 14 12 (.bin .leq) [t 13, c (.t (.int .u8 90))],
 n 15 9 .pick [t 12, t 14, b false],
 o 16 .pick [t 9, b true, t 15],
 m 2 16]
def c98_1 : EC := .rg c98_1l false
@[simp] theorem c98_1e : Rg c98_1 c98_1l false := rgE _ _
def c98_2 : EC := .sq c98_1 .rt
@[simp] theorem c98_2e : Sq c98_2 c98_1 .rt := sqE _ _
def c98_3 : EC := .sq c98_0 c98_2
@[simp] theorem c98_3e : Sq c98_3 c98_0 c98_2 := sqE _ _
def c_group_letter_98 : EC := c98_3
theorem k_98 : ecF Try.prog 98 = some (17, c_group_letter_98, [.tm 2]) := by kernel_rfl

/-- tallystone/mapping.link -/
@[simp] def c99_0l : List EO := [o 3 .box [t 0],
 o 5 .box [t 2],
 o 6 .mv [b false]]
def c99_0 : EC := .rg c99_0l false
@[simp] theorem c99_0e : Rg c99_0 c99_0l false := rgE _ _
@[simp] def c99_1l : List EO := [o 12 (.faddr 2) [t 3],
 o 13 (.load 1 false) [t 12],
 o 14 (.faddr 0) [t 5],
 o 15 (.load 1 false) [t 14],
 o 16 (.call 88) [t 13, t 15],
 m 11 16,
 o 17 (.ext 0) [t 11],
 o 18 (.ext 1) [t 11],
 o 7 (.alloc [.t (.int .i64 0), .t (.int .i64 0), .t (.int .i64 0), .t (.int .i64 0)]) [],
 u (.store 4) [t 7, t 17],
 m 8 18]
def c99_1 : EC := .rg c99_1l false
@[simp] theorem c99_1e : Rg c99_1 c99_1l false := rgE _ _
@[simp] def c99_2l : List EO := [m 20 1,
 o 21 (.faddr 1) [t 5],
 o 22 (.load 1 false) [t 21],
 o 23 (.call 88) [t 20, t 22],
 m 19 23,
 o 24 (.ext 0) [t 19],
 o 25 (.ext 1) [t 19],
 o 9 (.alloc [.t (.int .i64 0), .t (.int .i64 0), .t (.int .i64 0), .t (.int .i64 0)]) [],
 u (.store 4) [t 9, t 24],
 m 10 25]
def c99_2 : EC := .rg c99_2l false
@[simp] theorem c99_2e : Rg c99_2 c99_2l false := rgE _ _
@[simp] def c99_3l : List EO := [m 26 8,
 m 27 26,
 y 28 27 .mv [t 10],
 o 29 .pick [t 27, t 28, b false],
 m 30 29,
 y 31 30 (.faddr 1) [t 7],
 y 32 30 (.load 1 false) [t 31],
 y 33 30 (.faddr 1) [t 9],
 y 34 30 (.load 1 false) [t 33],
 y 35 30 (.bin .eql) [t 32, t 34],
 o 36 .pick [t 30, t 35, b false],
 m 37 36,
 y 38 37 (.faddr 2) [t 5],
 y 39 37 (.load 1 false) [t 38],
 y 40 37 (.call 94) [t 39],
 o 41 .pick [t 37, t 40, b false],
 m 6 41]
def c99_3 : EC := .rg c99_3l false
@[simp] theorem c99_3e : Rg c99_3 c99_3l false := rgE _ _
def c99_4 : EC := .sq c99_3 .rt
@[simp] theorem c99_4e : Sq c99_4 c99_3 .rt := sqE _ _
def c99_5 : EC := .sq c99_2 c99_4
@[simp] theorem c99_5e : Sq c99_5 c99_2 c99_4 := sqE _ _
def c99_6 : EC := .sq c99_1 c99_5
@[simp] theorem c99_6e : Sq c99_6 c99_1 c99_5 := sqE _ _
def c99_7 : EC := .sq c99_0 c99_6
@[simp] theorem c99_7e : Sq c99_7 c99_0 c99_6 := sqE _ _
def c_mapping_link_99 : EC := c99_7
theorem k_99 : ecF Try.prog 99 = some (42, c_mapping_link_99, [.tm 6]) := by kernel_rfl
end Go.Proofs.Ythfnaaeddlnckaa
