/- The code of the functions of this seat, as the engine reads it; printed by program out of the translation, checked by the kernel. -/
import Derived.Test.YtkapabohpfkcoaaDoorEd
import Derived.Test.YtkapabohpfkcoaaDoorProg
set_option linter.unusedSimpArgs false
set_option linter.unusedVariables false
namespace Go.Proofs.YtkapabohpfkcoaaDoor
open Go.Proofs E E.Z
variable {P : Program} {nb nt : Nat} {Q : Ex → Fr → St → Prop} {a : Fr} {S : St}
/-- tallystone/tallystoneref33.Rename, with slices that grow in boxes -/
@[simp] def b38_0l : List EO := [o 3 .box [t 0],
 o 6 (.alloc [.t (.int .i64 0), .t (.int .i64 0), .t (.int .i64 0), .t (.int .i64 0), .t (.str []), .snil]) []]
def b38_0 : EC := .rg b38_0l false
@[simp] theorem b38_0e : Rg b38_0 b38_0l false := rgE _ _
@[simp] def b38_1l : List EO := [o 10 (.faddr 0) [t 3],
 o 11 (.load 1 false) [t 10],
 o 12 (.bin .eql) [t 11, i 2]]
def b38_1 : EC := .rg b38_1l false
@[simp] theorem b38_1e : Rg b38_1 b38_1l false := rgE _ _
@[simp] def b38_2l : List EO := [o 7 .mv [i 0]]
def b38_2 : EC := .rg b38_2l false
@[simp] theorem b38_2e : Rg b38_2 b38_2l false := rgE _ _
@[simp] def b38_3l : List EO := [m 13 7,
 m 14 1,
 o 15 .lenL [t 14],
 o 16 (.bin .lss) [t 13, t 15],
 m 17 16,
 y 18 17 .mv [t 7],
 y 19 17 .mv [t 2],
 y 20 17 .lenL [t 19],
 y 21 17 (.bin .lss) [t 18, t 20],
 o 22 .pick [t 17, t 21, b false]]
def b38_3 : EC := .rg b38_3l false
@[simp] theorem b38_3e : Rg b38_3 b38_3l false := rgE _ _
def b38_4 : EC := .cd (t 22) .skip (.ex 0)
@[simp] theorem b38_4e : Cd b38_4 (t 22) .skip (.ex 0) := cdE _ _ _
def b38_5 : EC := .sq b38_3 b38_4
@[simp] theorem b38_5e : Sq b38_5 b38_3 b38_4 := sqE _ _
@[simp] def b38_6l : List EO := [m 25 1,
 m 26 7,
 o 27 (.iaS 1) [t 25, t 26],
 o 28 (.load 1 false) [t 27],
 o 29 (.faddr 4) [t 3],
 o 30 (.load 1 false) [t 29],
 o 31 (.bin .eql) [t 28, t 30]]
def b38_6 : EC := .rg b38_6l true
@[simp] theorem b38_6e : Rg b38_6 b38_6l true := rgE _ _
@[simp] def b38_7l : List EO := [m 32 2,
 m 33 7,
 o 34 (.iaS 1) [t 32, t 33],
 o 35 (.load 1 false) [t 34],
 o 36 (.faddr 4) [t 3],
 u (.store 1) [t 36, t 35]]
def b38_7 : EC := .rg b38_7l false
@[simp] theorem b38_7e : Rg b38_7 b38_7l false := rgE _ _
@[simp] def b38_8l : List EO := [o 37 (.load 6 true) [t 3],
 u (.store 6) [t 6, t 37]]
def b38_8 : EC := .rg b38_8l false
@[simp] theorem b38_8e : Rg b38_8 b38_8l false := rgE _ _
def b38_9 : EC := .sq b38_8 .rt
@[simp] theorem b38_9e : Sq b38_9 b38_8 .rt := sqE _ _
def b38_10 : EC := .sq b38_7 b38_9
@[simp] theorem b38_10e : Sq b38_10 b38_7 b38_9 := sqE _ _
def b38_11 : EC := .cd (t 31) b38_10 .skip
@[simp] theorem b38_11e : Cd b38_11 (t 31) b38_10 .skip := cdE _ _ _
def b38_12 : EC := .sq b38_6 b38_11
@[simp] theorem b38_12e : Sq b38_12 b38_6 b38_11 := sqE _ _
def b38_13 : EC := .bk 1 b38_12
@[simp] theorem b38_13e : Bk b38_13 1 b38_12 := bkE _ _
@[simp] def b38_14l : List EO := [m 23 7,
 o 24 (.bin .add) [t 23, i 1],
 m 7 24]
def b38_14 : EC := .rg b38_14l false
@[simp] theorem b38_14e : Rg b38_14 b38_14l false := rgE _ _
def b38_15 : EC := .sq b38_13 b38_14
@[simp] theorem b38_15e : Sq b38_15 b38_13 b38_14 := sqE _ _
def b38_16 : EC := .sq b38_5 b38_15
@[simp] theorem b38_16e : Sq b38_16 b38_5 b38_15 := sqE _ _
def b38_17 : EC := .bk 0 (.lp b38_16)
@[simp] theorem b38_17e : Bk b38_17 0 (.lp b38_16) := bkE _ _
def b38_18 : EC := .sq b38_2 b38_17
@[simp] theorem b38_18e : Sq b38_18 b38_2 b38_17 := sqE _ _
@[simp] def b38_19l : List EO := [o 38 (.load 6 true) [t 3],
 u (.store 6) [t 6, t 38]]
def b38_19 : EC := .rg b38_19l false
@[simp] theorem b38_19e : Rg b38_19 b38_19l false := rgE _ _
def b38_20 : EC := .sq b38_19 .rt
@[simp] theorem b38_20e : Sq b38_20 b38_19 .rt := sqE _ _
def b38_21 : EC := .sq b38_18 b38_20
@[simp] theorem b38_21e : Sq b38_21 b38_18 b38_20 := sqE _ _
def b38_22 : EC := .cd (t 12) b38_21 .skip
@[simp] theorem b38_22e : Cd b38_22 (t 12) b38_21 .skip := cdE _ _ _
def b38_23 : EC := .sq b38_1 b38_22
@[simp] theorem b38_23e : Sq b38_23 b38_1 b38_22 := sqE _ _
@[simp] def b38_24l : List EO := [o 8 .mv [c (.snil)]]
def b38_24 : EC := .rg b38_24l false
@[simp] theorem b38_24e : Rg b38_24 b38_24l false := rgE _ _
@[simp] def b38_25l : List EO := [o 9 .mv [i 0]]
def b38_25 : EC := .rg b38_25l false
@[simp] theorem b38_25e : Rg b38_25 b38_25l false := rgE _ _
@[simp] def b38_26l : List EO := [m 39 9,
 o 40 (.faddr 5) [t 3],
 o 41 (.load 1 false) [t 40],
 o 42 .lenL [t 41],
 o 43 (.bin .lss) [t 39, t 42]]
def b38_26 : EC := .rg b38_26l false
@[simp] theorem b38_26e : Rg b38_26 b38_26l false := rgE _ _
def b38_27 : EC := .cd (t 43) .skip (.ex 2)
@[simp] theorem b38_27e : Cd b38_27 (t 43) .skip (.ex 2) := cdE _ _ _
def b38_28 : EC := .sq b38_26 b38_27
@[simp] theorem b38_28e : Sq b38_28 b38_26 b38_27 := sqE _ _
@[simp] def b38_29l : List EO := [m 46 8,
 o 47 (.faddr 5) [t 3],
 o 48 (.load 1 false) [t 47],
 m 49 9,
 o 50 (.iaS 6) [t 48, t 49],
 o 51 (.load 6 true) [t 50],
 m 52 1,
 m 53 2,
 o 54 (.call 38) [t 51, t 52, t 53],
 o 55 (.bsl 6) [t 54],
 o 56 (.appB 32 6 72) [t 46, t 55],
 m 8 56]
def b38_29 : EC := .rg b38_29l false
@[simp] theorem b38_29e : Rg b38_29 b38_29l false := rgE _ _
def b38_30 : EC := .bk 3 b38_29
@[simp] theorem b38_30e : Bk b38_30 3 b38_29 := bkE _ _
@[simp] def b38_31l : List EO := [m 44 9,
 o 45 (.bin .add) [t 44, i 1],
 m 9 45]
def b38_31 : EC := .rg b38_31l false
@[simp] theorem b38_31e : Rg b38_31 b38_31l false := rgE _ _
def b38_32 : EC := .sq b38_30 b38_31
@[simp] theorem b38_32e : Sq b38_32 b38_30 b38_31 := sqE _ _
def b38_33 : EC := .sq b38_28 b38_32
@[simp] theorem b38_33e : Sq b38_33 b38_28 b38_32 := sqE _ _
def b38_34 : EC := .bk 2 (.lp b38_33)
@[simp] theorem b38_34e : Bk b38_34 2 (.lp b38_33) := bkE _ _
def b38_35 : EC := .sq b38_25 b38_34
@[simp] theorem b38_35e : Sq b38_35 b38_25 b38_34 := sqE _ _
@[simp] def b38_36l : List EO := [m 57 8,
 o 58 (.faddr 5) [t 3],
 u (.store 1) [t 58, t 57]]
def b38_36 : EC := .rg b38_36l false
@[simp] theorem b38_36e : Rg b38_36 b38_36l false := rgE _ _
@[simp] def b38_37l : List EO := [o 59 (.load 6 true) [t 3],
 u (.store 6) [t 6, t 59]]
def b38_37 : EC := .rg b38_37l false
@[simp] theorem b38_37e : Rg b38_37 b38_37l false := rgE _ _
def b38_38 : EC := .sq b38_37 .rt
@[simp] theorem b38_38e : Sq b38_38 b38_37 .rt := sqE _ _
def b38_39 : EC := .sq b38_36 b38_38
@[simp] theorem b38_39e : Sq b38_39 b38_36 b38_38 := sqE _ _
def b38_40 : EC := .sq b38_35 b38_39
@[simp] theorem b38_40e : Sq b38_40 b38_35 b38_39 := sqE _ _
def b38_41 : EC := .sq b38_24 b38_40
@[simp] theorem b38_41e : Sq b38_41 b38_24 b38_40 := sqE _ _
def b38_42 : EC := .sq b38_23 b38_41
@[simp] theorem b38_42e : Sq b38_42 b38_23 b38_41 := sqE _ _
def b38_43 : EC := .sq b38_0 b38_42
@[simp] theorem b38_43e : Sq b38_43 b38_0 b38_42 := sqE _ _
def b_tallystoneref33_Rename_38 : EC := b38_43
theorem kb_38 : ecB Tryd.prog 38 = some (60, b_tallystoneref33_Rename_38, [.ce 6 6 true]) := by kernel_rfl

/-- tallystone/tallystonelaw33.used -/
@[simp] def c39_0l : List EO := [o 3 .box [t 0],
 o 6 .mv [b false]]
def c39_0 : EC := .rg c39_0l false
@[simp] theorem c39_0e : Rg c39_0 c39_0l false := rgE _ _
@[simp] def c39_1l : List EO := [o 7 .mv [i 0]]
def c39_1 : EC := .rg c39_1l false
@[simp] theorem c39_1e : Rg c39_1 c39_1l false := rgE _ _
@[simp] def c39_2l : List EO := [m 8 7,
 o 9 (.faddr 2) [t 3],
 o 10 (.load 1 false) [t 9],
 o 11 .lenL [t 10],
 o 12 (.bin .lss) [t 8, t 11]]
def c39_2 : EC := .rg c39_2l false
@[simp] theorem c39_2e : Rg c39_2 c39_2l false := rgE _ _
def c39_3 : EC := .cd (t 12) .skip (.ex 0)
@[simp] theorem c39_3e : Cd c39_3 (t 12) .skip (.ex 0) := cdE _ _ _
def c39_4 : EC := .sq c39_2 c39_3
@[simp] theorem c39_4e : Sq c39_4 c39_2 c39_3 := sqE _ _
@[simp] def c39_5l : List EO := [o 15 (.faddr 2) [t 3],
 o 16 (.load 1 false) [t 15],
 m 17 7,
 o 18 (.iaS 9) [t 16, t 17],
 o 19 (.faddr 3) [t 18],
 o 20 (.load 6 true) [t 19],
 m 21 1,
 m 22 2,
 o 23 (.call 72) [t 20, t 21, t 22]]
def c39_5 : EC := .rg c39_5l false
@[simp] theorem c39_5e : Rg c39_5 c39_5l false := rgE _ _
@[simp] def c39_6l : List EO := [o 6 .mv [b true]]
def c39_6 : EC := .rg c39_6l false
@[simp] theorem c39_6e : Rg c39_6 c39_6l false := rgE _ _
def c39_7 : EC := .sq c39_6 .rt
@[simp] theorem c39_7e : Sq c39_7 c39_6 .rt := sqE _ _
def c39_8 : EC := .cd (t 23) c39_7 .skip
@[simp] theorem c39_8e : Cd c39_8 (t 23) c39_7 .skip := cdE _ _ _
def c39_9 : EC := .sq c39_5 c39_8
@[simp] theorem c39_9e : Sq c39_9 c39_5 c39_8 := sqE _ _
def c39_10 : EC := .bk 1 c39_9
@[simp] theorem c39_10e : Bk c39_10 1 c39_9 := bkE _ _
@[simp] def c39_11l : List EO := [m 13 7,
 o 14 (.bin .add) [t 13, i 1],
 m 7 14]
def c39_11 : EC := .rg c39_11l false
@[simp] theorem c39_11e : Rg c39_11 c39_11l false := rgE _ _
def c39_12 : EC := .sq c39_10 c39_11
@[simp] theorem c39_12e : Sq c39_12 c39_10 c39_11 := sqE _ _
def c39_13 : EC := .sq c39_4 c39_12
@[simp] theorem c39_13e : Sq c39_13 c39_4 c39_12 := sqE _ _
def c39_14 : EC := .bk 0 (.lp c39_13)
@[simp] theorem c39_14e : Bk c39_14 0 (.lp c39_13) := bkE _ _
def c39_15 : EC := .sq c39_1 c39_14
@[simp] theorem c39_15e : Sq c39_15 c39_1 c39_14 := sqE _ _
@[simp] def c39_16l : List EO := [o 6 .mv [b false]]
def c39_16 : EC := .rg c39_16l false
@[simp] theorem c39_16e : Rg c39_16 c39_16l false := rgE _ _
def c39_17 : EC := .sq c39_16 .rt
@[simp] theorem c39_17e : Sq c39_17 c39_16 .rt := sqE _ _
def c39_18 : EC := .sq c39_15 c39_17
@[simp] theorem c39_18e : Sq c39_18 c39_15 c39_17 := sqE _ _
def c39_19 : EC := .sq c39_0 c39_18
@[simp] theorem c39_19e : Sq c39_19 c39_0 c39_18 := sqE _ _
def c_tallystonelaw33_used_39 : EC := c39_19
theorem k_39 : ecF Tryd.prog 39 = some (24, c_tallystonelaw33_used_39, [.tm 6]) := by kernel_rfl

/-- tallystone/tallystoneref32.Valid -/
@[simp] def c40_0l : List EO := [o 2 .mv [b false]]
def c40_0 : EC := .rg c40_0l false
@[simp] theorem c40_0e : Rg c40_0 c40_0l false := rgE _ _
@[simp] def c40_1l : List EO := [o 3 .mv [i 0]]
def c40_1 : EC := .rg c40_1l false
@[simp] theorem c40_1e : Rg c40_1 c40_1l false := rgE _ _
@[simp] def c40_2l : List EO := [m 6 3,
 m 7 0,
 o 8 .lenL [t 7],
 o 9 (.bin .lss) [t 6, t 8]]
def c40_2 : EC := .rg c40_2l false
@[simp] theorem c40_2e : Rg c40_2 c40_2l false := rgE _ _
def c40_3 : EC := .cd (t 9) .skip (.ex 0)
@[simp] theorem c40_3e : Cd c40_3 (t 9) .skip (.ex 0) := cdE _ _ _
def c40_4 : EC := .sq c40_2 c40_3
@[simp] theorem c40_4e : Sq c40_4 c40_2 c40_3 := sqE _ _
@[simp] def c40_5l : List EO := [m 12 0,
 m 13 3,
 o 14 (.iaS 4) [t 12, t 13],
 o 15 (.faddr 0) [t 14],
 o 16 (.load 1 false) [t 15],
 o 17 (.call 73) [t 16],
 o 18 (.un .not) [t 17],
 m 19 18,
 n 20 19 .mv [t 0],
 n 21 19 .mv [t 3],
 n 22 19 (.iaS 4) [t 20, t 21],
 n 23 19 (.faddr 2) [t 22],
 n 24 19 (.load 1 false) [t 23],
 n 25 19 .lenL [t 24],
 n 26 19 (.bin .gtr) [t 25, i 30],
 o 27 .pick [t 19, b true, t 26],
 m 28 27,
 n 29 28 .mv [t 0],
 n 30 28 .mv [t 3],
 n 31 28 (.iaS 4) [t 29, t 30],
 n 32 28 (.faddr 3) [t 31],
 n 33 28 (.load 1 false) [t 32],
 n 34 28 (.call 74) [t 33],
 n 35 28 (.un .not) [t 34],
 o 36 .pick [t 28, b true, t 35]]
def c40_5 : EC := .rg c40_5l false
@[simp] theorem c40_5e : Rg c40_5 c40_5l false := rgE _ _
@[simp] def c40_6l : List EO := [o 2 .mv [b false]]
def c40_6 : EC := .rg c40_6l false
@[simp] theorem c40_6e : Rg c40_6 c40_6l false := rgE _ _
def c40_7 : EC := .sq c40_6 .rt
@[simp] theorem c40_7e : Sq c40_7 c40_6 .rt := sqE _ _
def c40_8 : EC := .cd (t 36) c40_7 .skip
@[simp] theorem c40_8e : Cd c40_8 (t 36) c40_7 .skip := cdE _ _ _
def c40_9 : EC := .sq c40_5 c40_8
@[simp] theorem c40_9e : Sq c40_9 c40_5 c40_8 := sqE _ _
@[simp] def c40_10l : List EO := [o 4 .mv [i 0]]
def c40_10 : EC := .rg c40_10l false
@[simp] theorem c40_10e : Rg c40_10 c40_10l false := rgE _ _
@[simp] def c40_11l : List EO := [m 37 4,
 m 38 0,
 m 39 3,
 o 40 (.iaS 4) [t 38, t 39],
 o 41 (.faddr 2) [t 40],
 o 42 (.load 1 false) [t 41],
 o 43 .lenL [t 42],
 o 44 (.bin .lss) [t 37, t 43]]
def c40_11 : EC := .rg c40_11l false
@[simp] theorem c40_11e : Rg c40_11 c40_11l false := rgE _ _
def c40_12 : EC := .cd (t 44) .skip (.ex 2)
@[simp] theorem c40_12e : Cd c40_12 (t 44) .skip (.ex 2) := cdE _ _ _
def c40_13 : EC := .sq c40_11 c40_12
@[simp] theorem c40_13e : Sq c40_13 c40_11 c40_12 := sqE _ _
@[simp] def c40_14l : List EO := [m 47 0,
 m 48 3,
 o 49 (.iaS 4) [t 47, t 48],
 o 50 (.faddr 2) [t 49],
 o 51 (.load 1 false) [t 50],
 m 52 4,
 o 53 (.iaS 9) [t 51, t 52],
 o 54 (.load 9 true) [t 53],
 o 5 (.alloc [.t (.int .i64 0), .t (.int .i64 0), .t (.str []), .t (.int .i64 0), .t (.int .i64 0), .t (.int .i64 0), .t (.int .i64 0), .t (.str []), .snil]) [],
 u (.store 9) [t 5, t 54]]
def c40_14 : EC := .rg c40_14l false
@[simp] theorem c40_14e : Rg c40_14 c40_14l false := rgE _ _
@[simp] def c40_15l : List EO := [o 55 (.faddr 0) [t 5],
 o 56 (.load 1 false) [t 55],
 o 57 (.bin .lss) [t 56, i 1],
 m 58 57,
 n 59 58 (.faddr 0) [t 5],
 n 60 58 (.load 1 false) [t 59],
 n 61 58 (.bin .gtr) [t 60, i 3],
 o 62 .pick [t 58, b true, t 61],
 m 63 62,
 n 64 63 (.faddr 0) [t 5],
 n 65 63 (.load 1 false) [t 64],
 n 66 63 (.bin .eql) [t 65, i 1],
 n 67 63 (.faddr 2) [t 5],
 n 68 63 (.load 1 false) [t 67],
 n 69 63 (.bin .neq) [t 68, c (.t (.str []))],
 n 70 63 (.eqv true false [0]) [t 66, t 69],
 o 71 .pick [t 63, b true, t 70],
 m 72 71,
 n 73 72 (.faddr 0) [t 5],
 n 74 72 (.load 1 false) [t 73],
 n 75 72 (.bin .eql) [t 74, i 1],
 n 76 72 .mv [t 75],
 y 77 76 (.faddr 2) [t 5],
 y 78 76 (.load 1 false) [t 77],
 y 79 76 (.call 73) [t 78],
 y 80 76 (.un .not) [t 79],
 n 81 72 .pick [t 76, t 80, b false],
 o 82 .pick [t 72, b true, t 81],
 m 83 82,
 n 84 83 (.faddr 0) [t 5],
 n 85 83 (.load 1 false) [t 84],
 n 86 83 (.bin .eql) [t 85, i 3],
 n 87 83 .mv [t 86],
 y 88 87 (.faddr 1) [t 5],
 y 89 87 (.load 1 false) [t 88],
 y 90 87 (.call 74) [t 89],
 y 91 87 (.un .not) [t 90],
 n 92 83 .pick [t 87, t 91, b false],
 o 93 .pick [t 83, b true, t 92],
 m 94 93,
 n 95 94 (.faddr 0) [t 5],
 n 96 94 (.load 1 false) [t 95],
 n 97 94 (.bin .neq) [t 96, i 3],
 n 98 94 .mv [t 97],
 y 99 98 (.faddr 1) [t 5],
 y 100 98 (.load 1 false) [t 99],
 y 101 98 (.bin .neq) [t 100, i 0],
 n 102 94 .pick [t 98, t 101, b false],
 o 103 .pick [t 94, b true, t 102],
 m 104 103,
 n 105 104 (.faddr 3) [t 5],
 n 106 104 (.load 6 true) [t 105],
 n 107 104 (.call 75) [t 106],
 n 108 104 (.bin .gtr) [t 107, i 30],
 o 109 .pick [t 104, b true, t 108],
 m 110 109,
 n 111 110 (.faddr 3) [t 5],
 n 112 110 (.load 6 true) [t 111],
 n 113 110 (.call 76) [t 112],
 n 114 110 (.un .not) [t 113],
 o 115 .pick [t 110, b true, t 114]]
def c40_15 : EC := .rg c40_15l false
@[simp] theorem c40_15e : Rg c40_15 c40_15l false := rgE _ _
@[simp] def c40_16l : List EO := [o 2 .mv [b false]]
def c40_16 : EC := .rg c40_16l false
@[simp] theorem c40_16e : Rg c40_16 c40_16l false := rgE _ _
def c40_17 : EC := .sq c40_16 .rt
@[simp] theorem c40_17e : Sq c40_17 c40_16 .rt := sqE _ _
def c40_18 : EC := .cd (t 115) c40_17 .skip
@[simp] theorem c40_18e : Cd c40_18 (t 115) c40_17 .skip := cdE _ _ _
def c40_19 : EC := .sq c40_15 c40_18
@[simp] theorem c40_19e : Sq c40_19 c40_15 c40_18 := sqE _ _
def c40_20 : EC := .sq c40_14 c40_19
@[simp] theorem c40_20e : Sq c40_20 c40_14 c40_19 := sqE _ _
def c40_21 : EC := .bk 3 c40_20
@[simp] theorem c40_21e : Bk c40_21 3 c40_20 := bkE _ _
@[simp] def c40_22l : List EO := [m 45 4,
 o 46 (.bin .add) [t 45, i 1],
 m 4 46]
def c40_22 : EC := .rg c40_22l false
@[simp] theorem c40_22e : Rg c40_22 c40_22l false := rgE _ _
def c40_23 : EC := .sq c40_21 c40_22
@[simp] theorem c40_23e : Sq c40_23 c40_21 c40_22 := sqE _ _
def c40_24 : EC := .sq c40_13 c40_23
@[simp] theorem c40_24e : Sq c40_24 c40_13 c40_23 := sqE _ _
def c40_25 : EC := .bk 2 (.lp c40_24)
@[simp] theorem c40_25e : Bk c40_25 2 (.lp c40_24) := bkE _ _
def c40_26 : EC := .sq c40_10 c40_25
@[simp] theorem c40_26e : Sq c40_26 c40_10 c40_25 := sqE _ _
def c40_27 : EC := .sq c40_9 c40_26
@[simp] theorem c40_27e : Sq c40_27 c40_9 c40_26 := sqE _ _
def c40_28 : EC := .bk 1 c40_27
@[simp] theorem c40_28e : Bk c40_28 1 c40_27 := bkE _ _
@[simp] def c40_29l : List EO := [m 10 3,
 o 11 (.bin .add) [t 10, i 1],
 m 3 11]
def c40_29 : EC := .rg c40_29l false
@[simp] theorem c40_29e : Rg c40_29 c40_29l false := rgE _ _
def c40_30 : EC := .sq c40_28 c40_29
@[simp] theorem c40_30e : Sq c40_30 c40_28 c40_29 := sqE _ _
def c40_31 : EC := .sq c40_4 c40_30
@[simp] theorem c40_31e : Sq c40_31 c40_4 c40_30 := sqE _ _
def c40_32 : EC := .bk 0 (.lp c40_31)
@[simp] theorem c40_32e : Bk c40_32 0 (.lp c40_31) := bkE _ _
def c40_33 : EC := .sq c40_1 c40_32
@[simp] theorem c40_33e : Sq c40_33 c40_1 c40_32 := sqE _ _
@[simp] def c40_34l : List EO := [m 116 0,
 o 117 .lenL [t 116],
 o 118 (.bin .leq) [t 117, i 40],
 m 2 118]
def c40_34 : EC := .rg c40_34l false
@[simp] theorem c40_34e : Rg c40_34 c40_34l false := rgE _ _
def c40_35 : EC := .sq c40_34 .rt
@[simp] theorem c40_35e : Sq c40_35 c40_34 .rt := sqE _ _
def c40_36 : EC := .sq c40_33 c40_35
@[simp] theorem c40_36e : Sq c40_36 c40_33 c40_35 := sqE _ _
def c40_37 : EC := .sq c40_0 c40_36
@[simp] theorem c40_37e : Sq c40_37 c40_0 c40_36 := sqE _ _
def c_tallystoneref32_Valid_40 : EC := c40_37
theorem k_40 : ecF Tryd.prog 40 = some (119, c_tallystoneref32_Valid_40, [.tm 2]) := by kernel_rfl

/-- tallystone/check.Posts -/
@[simp] def c41_0l : List EO := [o 2 .mv [c (.snil)]]
def c41_0 : EC := .rg c41_0l false
@[simp] theorem c41_0e : Rg c41_0 c41_0l false := rgE _ _
@[simp] def c41_1l : List EO := [o 3 .mv [c (.snil)]]
def c41_1 : EC := .rg c41_1l false
@[simp] theorem c41_1e : Rg c41_1 c41_1l false := rgE _ _
@[simp] def c41_2l : List EO := [m 8 0,
 o 9 .lenL [t 8],
 o 10 .mv [i 0]]
def c41_2 : EC := .rg c41_2l false
@[simp] theorem c41_2e : Rg c41_2 c41_2l false := rgE _ _
@[simp] def c41_3l : List EO := [o 11 (.bin .lss) [t 10, t 9]]
def c41_3 : EC := .rg c41_3l false
@[simp] theorem c41_3e : Rg c41_3 c41_3l false := rgE _ _
def c41_4 : EC := .cd (t 11) .skip (.ex 0)
@[simp] theorem c41_4e : Cd c41_4 (t 11) .skip (.ex 0) := cdE _ _ _
@[simp] def c41_5l : List EO := [o 12 (.iaS 4) [t 8, t 10],
 o 13 (.load 4 true) [t 12],
 o 5 (.alloc [.t (.str []), .t (.bool false), .snil, .t (.int .i64 0)]) [],
 u (.store 4) [t 5, t 13]]
def c41_5 : EC := .rg c41_5l false
@[simp] theorem c41_5e : Rg c41_5 c41_5l false := rgE _ _
@[simp] def c41_6l : List EO := [m 14 3,
 o 15 (.faddr 3) [t 5],
 o 16 (.load 1 false) [t 15],
 o 17 (.bsl 1) [t 16],
 o 18 (.app 3 1 8) [t 14, t 17],
 m 3 18]
def c41_6 : EC := .rg c41_6l false
@[simp] theorem c41_6e : Rg c41_6 c41_6l false := rgE _ _
@[simp] def c41_7l : List EO := [o 19 (.faddr 2) [t 5],
 o 20 (.load 1 false) [t 19],
 o 21 .lenL [t 20],
 o 22 .mv [i 0]]
def c41_7 : EC := .rg c41_7l false
@[simp] theorem c41_7e : Rg c41_7 c41_7l false := rgE _ _
@[simp] def c41_8l : List EO := [o 23 (.bin .lss) [t 22, t 21]]
def c41_8 : EC := .rg c41_8l false
@[simp] theorem c41_8e : Rg c41_8 c41_8l false := rgE _ _
def c41_9 : EC := .cd (t 23) .skip (.ex 2)
@[simp] theorem c41_9e : Cd c41_9 (t 23) .skip (.ex 2) := cdE _ _ _
@[simp] def c41_10l : List EO := [o 24 (.iaS 9) [t 20, t 22],
 o 25 (.load 9 true) [t 24],
 o 7 (.alloc [.t (.int .i64 0), .t (.int .i64 0), .t (.str []), .t (.int .i64 0), .t (.int .i64 0), .t (.int .i64 0), .t (.int .i64 0), .t (.str []), .snil]) [],
 u (.store 9) [t 7, t 25]]
def c41_10 : EC := .rg c41_10l false
@[simp] theorem c41_10e : Rg c41_10 c41_10l false := rgE _ _
@[simp] def c41_11l : List EO := [o 26 (.faddr 0) [t 7],
 o 27 (.load 1 false) [t 26],
 o 28 (.bin .eql) [t 27, i 3]]
def c41_11 : EC := .rg c41_11l false
@[simp] theorem c41_11e : Rg c41_11 c41_11l false := rgE _ _
@[simp] def c41_12l : List EO := [m 29 3,
 o 30 (.faddr 1) [t 7],
 o 31 (.load 1 false) [t 30],
 o 32 (.bsl 1) [t 31],
 o 33 (.app 3 1 8) [t 29, t 32],
 m 3 33]
def c41_12 : EC := .rg c41_12l false
@[simp] theorem c41_12e : Rg c41_12 c41_12l false := rgE _ _
def c41_13 : EC := .cd (t 28) c41_12 .skip
@[simp] theorem c41_13e : Cd c41_13 (t 28) c41_12 .skip := cdE _ _ _
def c41_14 : EC := .sq c41_11 c41_13
@[simp] theorem c41_14e : Sq c41_14 c41_11 c41_13 := sqE _ _
def c41_15 : EC := .sq c41_10 c41_14
@[simp] theorem c41_15e : Sq c41_15 c41_10 c41_14 := sqE _ _
def c41_16 : EC := .bk 3 c41_15
@[simp] theorem c41_16e : Bk c41_16 3 c41_15 := bkE _ _
@[simp] def c41_17l : List EO := [o 34 (.bin .add) [t 22, i 1],
 m 22 34]
def c41_17 : EC := .rg c41_17l false
@[simp] theorem c41_17e : Rg c41_17 c41_17l false := rgE _ _
def c41_18 : EC := .sq c41_16 c41_17
@[simp] theorem c41_18e : Sq c41_18 c41_16 c41_17 := sqE _ _
def c41_19 : EC := .sq c41_9 c41_18
@[simp] theorem c41_19e : Sq c41_19 c41_9 c41_18 := sqE _ _
def c41_20 : EC := .sq c41_8 c41_19
@[simp] theorem c41_20e : Sq c41_20 c41_8 c41_19 := sqE _ _
def c41_21 : EC := .bk 2 (.lp c41_20)
@[simp] theorem c41_21e : Bk c41_21 2 (.lp c41_20) := bkE _ _
def c41_22 : EC := .sq c41_7 c41_21
@[simp] theorem c41_22e : Sq c41_22 c41_7 c41_21 := sqE _ _
def c41_23 : EC := .sq c41_6 c41_22
@[simp] theorem c41_23e : Sq c41_23 c41_6 c41_22 := sqE _ _
def c41_24 : EC := .sq c41_5 c41_23
@[simp] theorem c41_24e : Sq c41_24 c41_5 c41_23 := sqE _ _
def c41_25 : EC := .bk 1 c41_24
@[simp] theorem c41_25e : Bk c41_25 1 c41_24 := bkE _ _
@[simp] def c41_26l : List EO := [o 35 (.bin .add) [t 10, i 1],
 m 10 35]
def c41_26 : EC := .rg c41_26l false
@[simp] theorem c41_26e : Rg c41_26 c41_26l false := rgE _ _
def c41_27 : EC := .sq c41_25 c41_26
@[simp] theorem c41_27e : Sq c41_27 c41_25 c41_26 := sqE _ _
def c41_28 : EC := .sq c41_4 c41_27
@[simp] theorem c41_28e : Sq c41_28 c41_4 c41_27 := sqE _ _
def c41_29 : EC := .sq c41_3 c41_28
@[simp] theorem c41_29e : Sq c41_29 c41_3 c41_28 := sqE _ _
def c41_30 : EC := .bk 0 (.lp c41_29)
@[simp] theorem c41_30e : Bk c41_30 0 (.lp c41_29) := bkE _ _
def c41_31 : EC := .sq c41_2 c41_30
@[simp] theorem c41_31e : Sq c41_31 c41_2 c41_30 := sqE _ _
@[simp] def c41_32l : List EO := [m 36 3,
 o 37 (.call 77) [t 36]]
def c41_32 : EC := .rg c41_32l false
@[simp] theorem c41_32e : Rg c41_32 c41_32l false := rgE _ _
@[simp] def c41_33l : List EO := [m 38 3,
 o 39 (.call 78) [t 38],
 m 2 39]
def c41_33 : EC := .rg c41_33l false
@[simp] theorem c41_33e : Rg c41_33 c41_33l false := rgE _ _
def c41_34 : EC := .sq c41_33 .rt
@[simp] theorem c41_34e : Sq c41_34 c41_33 .rt := sqE _ _
def c41_35 : EC := .sq c41_32 c41_34
@[simp] theorem c41_35e : Sq c41_35 c41_32 c41_34 := sqE _ _
def c41_36 : EC := .sq c41_31 c41_35
@[simp] theorem c41_36e : Sq c41_36 c41_31 c41_35 := sqE _ _
def c41_37 : EC := .sq c41_1 c41_36
@[simp] theorem c41_37e : Sq c41_37 c41_1 c41_36 := sqE _ _
def c41_38 : EC := .sq c41_0 c41_37
@[simp] theorem c41_38e : Sq c41_38 c41_0 c41_37 := sqE _ _
def c_check_Posts_41 : EC := c41_38
theorem k_41 : ecF Tryd.prog 41 = some (40, c_check_Posts_41, [.tm 2]) := by kernel_rfl

/-- tallystone/check.Posts, with slices that grow in boxes -/
@[simp] def b41_0l : List EO := [o 2 .mv [c (.snil)]]
def b41_0 : EC := .rg b41_0l false
@[simp] theorem b41_0e : Rg b41_0 b41_0l false := rgE _ _
@[simp] def b41_1l : List EO := [o 3 .mv [c (.snil)]]
def b41_1 : EC := .rg b41_1l false
@[simp] theorem b41_1e : Rg b41_1 b41_1l false := rgE _ _
@[simp] def b41_2l : List EO := [m 8 0,
 o 9 .lenL [t 8],
 o 10 .mv [i 0]]
def b41_2 : EC := .rg b41_2l false
@[simp] theorem b41_2e : Rg b41_2 b41_2l false := rgE _ _
@[simp] def b41_3l : List EO := [o 11 (.bin .lss) [t 10, t 9]]
def b41_3 : EC := .rg b41_3l false
@[simp] theorem b41_3e : Rg b41_3 b41_3l false := rgE _ _
def b41_4 : EC := .cd (t 11) .skip (.ex 0)
@[simp] theorem b41_4e : Cd b41_4 (t 11) .skip (.ex 0) := cdE _ _ _
@[simp] def b41_5l : List EO := [o 12 (.iaS 4) [t 8, t 10],
 o 13 (.load 4 true) [t 12],
 o 5 (.alloc [.t (.str []), .t (.bool false), .snil, .t (.int .i64 0)]) [],
 u (.store 4) [t 5, t 13]]
def b41_5 : EC := .rg b41_5l false
@[simp] theorem b41_5e : Rg b41_5 b41_5l false := rgE _ _
@[simp] def b41_6l : List EO := [m 14 3,
 o 15 (.faddr 3) [t 5],
 o 16 (.load 1 false) [t 15],
 o 17 (.bsl 1) [t 16],
 o 18 (.appB 3 1 8) [t 14, t 17],
 m 3 18]
def b41_6 : EC := .rg b41_6l false
@[simp] theorem b41_6e : Rg b41_6 b41_6l false := rgE _ _
@[simp] def b41_7l : List EO := [o 19 (.faddr 2) [t 5],
 o 20 (.load 1 false) [t 19],
 o 21 .lenL [t 20],
 o 22 .mv [i 0]]
def b41_7 : EC := .rg b41_7l false
@[simp] theorem b41_7e : Rg b41_7 b41_7l false := rgE _ _
@[simp] def b41_8l : List EO := [o 23 (.bin .lss) [t 22, t 21]]
def b41_8 : EC := .rg b41_8l false
@[simp] theorem b41_8e : Rg b41_8 b41_8l false := rgE _ _
def b41_9 : EC := .cd (t 23) .skip (.ex 2)
@[simp] theorem b41_9e : Cd b41_9 (t 23) .skip (.ex 2) := cdE _ _ _
@[simp] def b41_10l : List EO := [o 24 (.iaS 9) [t 20, t 22],
 o 25 (.load 9 true) [t 24],
 o 7 (.alloc [.t (.int .i64 0), .t (.int .i64 0), .t (.str []), .t (.int .i64 0), .t (.int .i64 0), .t (.int .i64 0), .t (.int .i64 0), .t (.str []), .snil]) [],
 u (.store 9) [t 7, t 25]]
def b41_10 : EC := .rg b41_10l false
@[simp] theorem b41_10e : Rg b41_10 b41_10l false := rgE _ _
@[simp] def b41_11l : List EO := [o 26 (.faddr 0) [t 7],
 o 27 (.load 1 false) [t 26],
 o 28 (.bin .eql) [t 27, i 3]]
def b41_11 : EC := .rg b41_11l false
@[simp] theorem b41_11e : Rg b41_11 b41_11l false := rgE _ _
@[simp] def b41_12l : List EO := [m 29 3,
 o 30 (.faddr 1) [t 7],
 o 31 (.load 1 false) [t 30],
 o 32 (.bsl 1) [t 31],
 o 33 (.appB 3 1 8) [t 29, t 32],
 m 3 33]
def b41_12 : EC := .rg b41_12l false
@[simp] theorem b41_12e : Rg b41_12 b41_12l false := rgE _ _
def b41_13 : EC := .cd (t 28) b41_12 .skip
@[simp] theorem b41_13e : Cd b41_13 (t 28) b41_12 .skip := cdE _ _ _
def b41_14 : EC := .sq b41_11 b41_13
@[simp] theorem b41_14e : Sq b41_14 b41_11 b41_13 := sqE _ _
def b41_15 : EC := .sq b41_10 b41_14
@[simp] theorem b41_15e : Sq b41_15 b41_10 b41_14 := sqE _ _
def b41_16 : EC := .bk 3 b41_15
@[simp] theorem b41_16e : Bk b41_16 3 b41_15 := bkE _ _
@[simp] def b41_17l : List EO := [o 34 (.bin .add) [t 22, i 1],
 m 22 34]
def b41_17 : EC := .rg b41_17l false
@[simp] theorem b41_17e : Rg b41_17 b41_17l false := rgE _ _
def b41_18 : EC := .sq b41_16 b41_17
@[simp] theorem b41_18e : Sq b41_18 b41_16 b41_17 := sqE _ _
def b41_19 : EC := .sq b41_9 b41_18
@[simp] theorem b41_19e : Sq b41_19 b41_9 b41_18 := sqE _ _
def b41_20 : EC := .sq b41_8 b41_19
@[simp] theorem b41_20e : Sq b41_20 b41_8 b41_19 := sqE _ _
def b41_21 : EC := .bk 2 (.lp b41_20)
@[simp] theorem b41_21e : Bk b41_21 2 (.lp b41_20) := bkE _ _
def b41_22 : EC := .sq b41_7 b41_21
@[simp] theorem b41_22e : Sq b41_22 b41_7 b41_21 := sqE _ _
def b41_23 : EC := .sq b41_6 b41_22
@[simp] theorem b41_23e : Sq b41_23 b41_6 b41_22 := sqE _ _
def b41_24 : EC := .sq b41_5 b41_23
@[simp] theorem b41_24e : Sq b41_24 b41_5 b41_23 := sqE _ _
def b41_25 : EC := .bk 1 b41_24
@[simp] theorem b41_25e : Bk b41_25 1 b41_24 := bkE _ _
@[simp] def b41_26l : List EO := [o 35 (.bin .add) [t 10, i 1],
 m 10 35]
def b41_26 : EC := .rg b41_26l false
@[simp] theorem b41_26e : Rg b41_26 b41_26l false := rgE _ _
def b41_27 : EC := .sq b41_25 b41_26
@[simp] theorem b41_27e : Sq b41_27 b41_25 b41_26 := sqE _ _
def b41_28 : EC := .sq b41_4 b41_27
@[simp] theorem b41_28e : Sq b41_28 b41_4 b41_27 := sqE _ _
def b41_29 : EC := .sq b41_3 b41_28
@[simp] theorem b41_29e : Sq b41_29 b41_3 b41_28 := sqE _ _
def b41_30 : EC := .bk 0 (.lp b41_29)
@[simp] theorem b41_30e : Bk b41_30 0 (.lp b41_29) := bkE _ _
def b41_31 : EC := .sq b41_2 b41_30
@[simp] theorem b41_31e : Sq b41_31 b41_2 b41_30 := sqE _ _
@[simp] def b41_32l : List EO := [m 36 3,
 o 37 (.call 77) [t 36]]
def b41_32 : EC := .rg b41_32l false
@[simp] theorem b41_32e : Rg b41_32 b41_32l false := rgE _ _
@[simp] def b41_33l : List EO := [m 38 3,
 o 39 (.call 78) [t 38],
 m 2 39]
def b41_33 : EC := .rg b41_33l false
@[simp] theorem b41_33e : Rg b41_33 b41_33l false := rgE _ _
def b41_34 : EC := .sq b41_33 .rt
@[simp] theorem b41_34e : Sq b41_34 b41_33 .rt := sqE _ _
def b41_35 : EC := .sq b41_32 b41_34
@[simp] theorem b41_35e : Sq b41_35 b41_32 b41_34 := sqE _ _
def b41_36 : EC := .sq b41_31 b41_35
@[simp] theorem b41_36e : Sq b41_36 b41_31 b41_35 := sqE _ _
def b41_37 : EC := .sq b41_1 b41_36
@[simp] theorem b41_37e : Sq b41_37 b41_1 b41_36 := sqE _ _
def b41_38 : EC := .sq b41_0 b41_37
@[simp] theorem b41_38e : Sq b41_38 b41_0 b41_37 := sqE _ _
def b_check_Posts_41 : EC := b41_38
theorem kb_41 : ecB Tryd.prog 41 = some (40, b_check_Posts_41, [.tm 2]) := by kernel_rfl

/-- tallystone/tallystoneref33.Posts -/
@[simp] def c42_0l : List EO := [o 2 .mv [c (.snil)]]
def c42_0 : EC := .rg c42_0l false
@[simp] theorem c42_0e : Rg c42_0 c42_0l false := rgE _ _
@[simp] def c42_1l : List EO := [o 3 .mv [c (.snil)]]
def c42_1 : EC := .rg c42_1l false
@[simp] theorem c42_1e : Rg c42_1 c42_1l false := rgE _ _
@[simp] def c42_2l : List EO := [o 4 .mv [i 0]]
def c42_2 : EC := .rg c42_2l false
@[simp] theorem c42_2e : Rg c42_2 c42_2l false := rgE _ _
@[simp] def c42_3l : List EO := [m 6 4,
 m 7 0,
 o 8 .lenL [t 7],
 o 9 (.bin .lss) [t 6, t 8]]
def c42_3 : EC := .rg c42_3l false
@[simp] theorem c42_3e : Rg c42_3 c42_3l false := rgE _ _
def c42_4 : EC := .cd (t 9) .skip (.ex 0)
@[simp] theorem c42_4e : Cd c42_4 (t 9) .skip (.ex 0) := cdE _ _ _
def c42_5 : EC := .sq c42_3 c42_4
@[simp] theorem c42_5e : Sq c42_5 c42_3 c42_4 := sqE _ _
@[simp] def c42_6l : List EO := [o 5 .mv [i 0]]
def c42_6 : EC := .rg c42_6l false
@[simp] theorem c42_6e : Rg c42_6 c42_6l false := rgE _ _
@[simp] def c42_7l : List EO := [m 12 5,
 m 13 0,
 m 14 4,
 o 15 (.iaS 4) [t 13, t 14],
 o 16 (.faddr 2) [t 15],
 o 17 (.load 1 false) [t 16],
 o 18 .lenL [t 17],
 o 19 (.bin .lss) [t 12, t 18]]
def c42_7 : EC := .rg c42_7l false
@[simp] theorem c42_7e : Rg c42_7 c42_7l false := rgE _ _
def c42_8 : EC := .cd (t 19) .skip (.ex 2)
@[simp] theorem c42_8e : Cd c42_8 (t 19) .skip (.ex 2) := cdE _ _ _
def c42_9 : EC := .sq c42_7 c42_8
@[simp] theorem c42_9e : Sq c42_9 c42_7 c42_8 := sqE _ _
@[simp] def c42_10l : List EO := [m 22 0,
 m 23 4,
 o 24 (.iaS 4) [t 22, t 23],
 o 25 (.faddr 2) [t 24],
 o 26 (.load 1 false) [t 25],
 m 27 5,
 o 28 (.iaS 9) [t 26, t 27],
 o 29 (.faddr 0) [t 28],
 o 30 (.load 1 false) [t 29],
 o 31 (.bin .eql) [t 30, i 3]]
def c42_10 : EC := .rg c42_10l false
@[simp] theorem c42_10e : Rg c42_10 c42_10l false := rgE _ _
@[simp] def c42_11l : List EO := [m 32 3,
 m 33 0,
 m 34 4,
 o 35 (.iaS 4) [t 33, t 34],
 o 36 (.faddr 2) [t 35],
 o 37 (.load 1 false) [t 36],
 m 38 5,
 o 39 (.iaS 9) [t 37, t 38],
 o 40 (.faddr 1) [t 39],
 o 41 (.load 1 false) [t 40],
 o 42 (.call 79) [t 32, t 41],
 m 3 42]
def c42_11 : EC := .rg c42_11l false
@[simp] theorem c42_11e : Rg c42_11 c42_11l false := rgE _ _
def c42_12 : EC := .cd (t 31) c42_11 .skip
@[simp] theorem c42_12e : Cd c42_12 (t 31) c42_11 .skip := cdE _ _ _
def c42_13 : EC := .sq c42_10 c42_12
@[simp] theorem c42_13e : Sq c42_13 c42_10 c42_12 := sqE _ _
def c42_14 : EC := .bk 3 c42_13
@[simp] theorem c42_14e : Bk c42_14 3 c42_13 := bkE _ _
@[simp] def c42_15l : List EO := [m 20 5,
 o 21 (.bin .add) [t 20, i 1],
 m 5 21]
def c42_15 : EC := .rg c42_15l false
@[simp] theorem c42_15e : Rg c42_15 c42_15l false := rgE _ _
def c42_16 : EC := .sq c42_14 c42_15
@[simp] theorem c42_16e : Sq c42_16 c42_14 c42_15 := sqE _ _
def c42_17 : EC := .sq c42_9 c42_16
@[simp] theorem c42_17e : Sq c42_17 c42_9 c42_16 := sqE _ _
def c42_18 : EC := .bk 2 (.lp c42_17)
@[simp] theorem c42_18e : Bk c42_18 2 (.lp c42_17) := bkE _ _
def c42_19 : EC := .sq c42_6 c42_18
@[simp] theorem c42_19e : Sq c42_19 c42_6 c42_18 := sqE _ _
@[simp] def c42_20l : List EO := [m 43 3,
 m 44 0,
 m 45 4,
 o 46 (.iaS 4) [t 44, t 45],
 o 47 (.faddr 3) [t 46],
 o 48 (.load 1 false) [t 47],
 o 49 (.call 79) [t 43, t 48],
 m 3 49]
def c42_20 : EC := .rg c42_20l false
@[simp] theorem c42_20e : Rg c42_20 c42_20l false := rgE _ _
def c42_21 : EC := .sq c42_19 c42_20
@[simp] theorem c42_21e : Sq c42_21 c42_19 c42_20 := sqE _ _
def c42_22 : EC := .bk 1 c42_21
@[simp] theorem c42_22e : Bk c42_22 1 c42_21 := bkE _ _
@[simp] def c42_23l : List EO := [m 10 4,
 o 11 (.bin .add) [t 10, i 1],
 m 4 11]
def c42_23 : EC := .rg c42_23l false
@[simp] theorem c42_23e : Rg c42_23 c42_23l false := rgE _ _
def c42_24 : EC := .sq c42_22 c42_23
@[simp] theorem c42_24e : Sq c42_24 c42_22 c42_23 := sqE _ _
def c42_25 : EC := .sq c42_5 c42_24
@[simp] theorem c42_25e : Sq c42_25 c42_5 c42_24 := sqE _ _
def c42_26 : EC := .bk 0 (.lp c42_25)
@[simp] theorem c42_26e : Bk c42_26 0 (.lp c42_25) := bkE _ _
def c42_27 : EC := .sq c42_2 c42_26
@[simp] theorem c42_27e : Sq c42_27 c42_2 c42_26 := sqE _ _
@[simp] def c42_28l : List EO := [m 50 3,
 m 2 50]
def c42_28 : EC := .rg c42_28l false
@[simp] theorem c42_28e : Rg c42_28 c42_28l false := rgE _ _
def c42_29 : EC := .sq c42_28 .rt
@[simp] theorem c42_29e : Sq c42_29 c42_28 .rt := sqE _ _
def c42_30 : EC := .sq c42_27 c42_29
@[simp] theorem c42_30e : Sq c42_30 c42_27 c42_29 := sqE _ _
def c42_31 : EC := .sq c42_1 c42_30
@[simp] theorem c42_31e : Sq c42_31 c42_1 c42_30 := sqE _ _
def c42_32 : EC := .sq c42_0 c42_31
@[simp] theorem c42_32e : Sq c42_32 c42_0 c42_31 := sqE _ _
def c_tallystoneref33_Posts_42 : EC := c42_32
theorem k_42 : ecF Tryd.prog 42 = some (51, c_tallystoneref33_Posts_42, [.tm 2]) := by kernel_rfl

/-- tallystone/check.Reads -/
@[simp] def c43_0l : List EO := [o 3 .box [t 1],
 o 4 .mv [b false]]
def c43_0 : EC := .rg c43_0l false
@[simp] theorem c43_0e : Rg c43_0 c43_0l false := rgE _ _
@[simp] def c43_1l : List EO := [m 5 0,
 o 6 (.mkfn (.func 81)) [t 3],
 o 7 (.call 80) [t 5, t 6],
 m 4 7]
def c43_1 : EC := .rg c43_1l false
@[simp] theorem c43_1e : Rg c43_1 c43_1l false := rgE _ _
def c43_2 : EC := .sq c43_1 .rt
@[simp] theorem c43_2e : Sq c43_2 c43_1 .rt := sqE _ _
def c43_3 : EC := .sq c43_0 c43_2
@[simp] theorem c43_3e : Sq c43_3 c43_0 c43_2 := sqE _ _
def c_check_Reads_43 : EC := c43_3
theorem k_43 : ecF Tryd.prog 43 = some (8, c_check_Reads_43, [.tm 4]) := by kernel_rfl

/-- tallystone/tallystoneref33.Reads -/
@[simp] def c44_0l : List EO := [o 4 .mv [b false]]
def c44_0 : EC := .rg c44_0l false
@[simp] theorem c44_0e : Rg c44_0 c44_0l false := rgE _ _
@[simp] def c44_1l : List EO := [o 5 .mv [i 0]]
def c44_1 : EC := .rg c44_1l false
@[simp] theorem c44_1e : Rg c44_1 c44_1l false := rgE _ _
@[simp] def c44_2l : List EO := [m 7 5,
 m 8 0,
 o 9 .lenL [t 8],
 o 10 (.bin .lss) [t 7, t 9]]
def c44_2 : EC := .rg c44_2l false
@[simp] theorem c44_2e : Rg c44_2 c44_2l false := rgE _ _
def c44_3 : EC := .cd (t 10) .skip (.ex 0)
@[simp] theorem c44_3e : Cd c44_3 (t 10) .skip (.ex 0) := cdE _ _ _
def c44_4 : EC := .sq c44_2 c44_3
@[simp] theorem c44_4e : Sq c44_4 c44_2 c44_3 := sqE _ _
@[simp] def c44_5l : List EO := [o 6 .mv [i 0]]
def c44_5 : EC := .rg c44_5l false
@[simp] theorem c44_5e : Rg c44_5 c44_5l false := rgE _ _
@[simp] def c44_6l : List EO := [m 13 6,
 m 14 0,
 m 15 5,
 o 16 (.iaS 4) [t 14, t 15],
 o 17 (.faddr 2) [t 16],
 o 18 (.load 1 false) [t 17],
 o 19 .lenL [t 18],
 o 20 (.bin .lss) [t 13, t 19]]
def c44_6 : EC := .rg c44_6l false
@[simp] theorem c44_6e : Rg c44_6 c44_6l false := rgE _ _
def c44_7 : EC := .cd (t 20) .skip (.ex 2)
@[simp] theorem c44_7e : Cd c44_7 (t 20) .skip (.ex 2) := cdE _ _ _
def c44_8 : EC := .sq c44_6 c44_7
@[simp] theorem c44_8e : Sq c44_8 c44_6 c44_7 := sqE _ _
@[simp] def c44_9l : List EO := [m 23 0,
 m 24 5,
 o 25 (.iaS 4) [t 23, t 24],
 o 26 (.faddr 2) [t 25],
 o 27 (.load 1 false) [t 26],
 m 28 6,
 o 29 (.iaS 9) [t 27, t 28],
 o 30 (.faddr 3) [t 29],
 o 31 (.load 6 true) [t 30],
 m 32 1,
 o 33 (.call 85) [t 31, t 32]]
def c44_9 : EC := .rg c44_9l false
@[simp] theorem c44_9e : Rg c44_9 c44_9l false := rgE _ _
@[simp] def c44_10l : List EO := [o 4 .mv [b true]]
def c44_10 : EC := .rg c44_10l false
@[simp] theorem c44_10e : Rg c44_10 c44_10l false := rgE _ _
def c44_11 : EC := .sq c44_10 .rt
@[simp] theorem c44_11e : Sq c44_11 c44_10 .rt := sqE _ _
def c44_12 : EC := .cd (t 33) c44_11 .skip
@[simp] theorem c44_12e : Cd c44_12 (t 33) c44_11 .skip := cdE _ _ _
def c44_13 : EC := .sq c44_9 c44_12
@[simp] theorem c44_13e : Sq c44_13 c44_9 c44_12 := sqE _ _
def c44_14 : EC := .bk 3 c44_13
@[simp] theorem c44_14e : Bk c44_14 3 c44_13 := bkE _ _
@[simp] def c44_15l : List EO := [m 21 6,
 o 22 (.bin .add) [t 21, i 1],
 m 6 22]
def c44_15 : EC := .rg c44_15l false
@[simp] theorem c44_15e : Rg c44_15 c44_15l false := rgE _ _
def c44_16 : EC := .sq c44_14 c44_15
@[simp] theorem c44_16e : Sq c44_16 c44_14 c44_15 := sqE _ _
def c44_17 : EC := .sq c44_8 c44_16
@[simp] theorem c44_17e : Sq c44_17 c44_8 c44_16 := sqE _ _
def c44_18 : EC := .bk 2 (.lp c44_17)
@[simp] theorem c44_18e : Bk c44_18 2 (.lp c44_17) := bkE _ _
def c44_19 : EC := .sq c44_5 c44_18
@[simp] theorem c44_19e : Sq c44_19 c44_5 c44_18 := sqE _ _
def c44_20 : EC := .bk 1 c44_19
@[simp] theorem c44_20e : Bk c44_20 1 c44_19 := bkE _ _
@[simp] def c44_21l : List EO := [m 11 5,
 o 12 (.bin .add) [t 11, i 1],
 m 5 12]
def c44_21 : EC := .rg c44_21l false
@[simp] theorem c44_21e : Rg c44_21 c44_21l false := rgE _ _
def c44_22 : EC := .sq c44_20 c44_21
@[simp] theorem c44_22e : Sq c44_22 c44_20 c44_21 := sqE _ _
def c44_23 : EC := .sq c44_4 c44_22
@[simp] theorem c44_23e : Sq c44_23 c44_4 c44_22 := sqE _ _
def c44_24 : EC := .bk 0 (.lp c44_23)
@[simp] theorem c44_24e : Bk c44_24 0 (.lp c44_23) := bkE _ _
def c44_25 : EC := .sq c44_1 c44_24
@[simp] theorem c44_25e : Sq c44_25 c44_1 c44_24 := sqE _ _
@[simp] def c44_26l : List EO := [o 4 .mv [b false]]
def c44_26 : EC := .rg c44_26l false
@[simp] theorem c44_26e : Rg c44_26 c44_26l false := rgE _ _
def c44_27 : EC := .sq c44_26 .rt
@[simp] theorem c44_27e : Sq c44_27 c44_26 .rt := sqE _ _
def c44_28 : EC := .sq c44_25 c44_27
@[simp] theorem c44_28e : Sq c44_28 c44_25 c44_27 := sqE _ _
def c44_29 : EC := .sq c44_0 c44_28
@[simp] theorem c44_29e : Sq c44_29 c44_0 c44_28 := sqE _ _
def c_tallystoneref33_Reads_44 : EC := c44_29
theorem k_44 : ecF Tryd.prog 44 = some (34, c_tallystoneref33_Reads_44, [.tm 4]) := by kernel_rfl

/-- tallystone/compile.amount -/
@[simp] def c45_0l : List EO := [o 2 .mv [b false]]
def c45_0 : EC := .rg c45_0l false
@[simp] theorem c45_0e : Rg c45_0 c45_0l false := rgE _ _
@[simp] def c45_1l : List EO := [m 3 0,
 o 4 (.bin .geq) [t 3, i (-1000000000000)],
 m 5 4,
 y 6 5 .mv [t 0],
 y 7 5 (.bin .leq) [t 6, i 1000000000000],
 o 8 .pick [t 5, t 7, b false],
 m 2 8]
def c45_1 : EC := .rg c45_1l false
@[simp] theorem c45_1e : Rg c45_1 c45_1l false := rgE _ _
def c45_2 : EC := .sq c45_1 .rt
@[simp] theorem c45_2e : Sq c45_2 c45_1 .rt := sqE _ _
def c45_3 : EC := .sq c45_0 c45_2
@[simp] theorem c45_3e : Sq c45_3 c45_0 c45_2 := sqE _ _
def c_compile_amount_45 : EC := c45_3
theorem k_45 : ecF Tryd.prog 45 = some (9, c_compile_amount_45, [.tm 2]) := by kernel_rfl

/-- tallystone/compile.truth -/
@[simp] def c46_0l : List EO := [o 2 .mv [i 0]]
def c46_0 : EC := .rg c46_0l false
@[simp] theorem c46_0e : Rg c46_0 c46_0l false := rgE _ _
@[simp] def c46_1l : List EO := [m 3 0]
def c46_1 : EC := .rg c46_1l false
@[simp] theorem c46_1e : Rg c46_1 c46_1l false := rgE _ _
@[simp] def c46_2l : List EO := [o 2 .mv [i 1]]
def c46_2 : EC := .rg c46_2l false
@[simp] theorem c46_2e : Rg c46_2 c46_2l false := rgE _ _
def c46_3 : EC := .sq c46_2 .rt
@[simp] theorem c46_3e : Sq c46_3 c46_2 .rt := sqE _ _
def c46_4 : EC := .cd (t 3) c46_3 .skip
@[simp] theorem c46_4e : Cd c46_4 (t 3) c46_3 .skip := cdE _ _ _
def c46_5 : EC := .sq c46_1 c46_4
@[simp] theorem c46_5e : Sq c46_5 c46_1 c46_4 := sqE _ _
@[simp] def c46_6l : List EO := [o 2 .mv [i 0]]
def c46_6 : EC := .rg c46_6l false
@[simp] theorem c46_6e : Rg c46_6 c46_6l false := rgE _ _
def c46_7 : EC := .sq c46_6 .rt
@[simp] theorem c46_7e : Sq c46_7 c46_6 .rt := sqE _ _
def c46_8 : EC := .sq c46_5 c46_7
@[simp] theorem c46_8e : Sq c46_8 c46_5 c46_7 := sqE _ _
def c46_9 : EC := .sq c46_0 c46_8
@[simp] theorem c46_9e : Sq c46_9 c46_0 c46_8 := sqE _ _
def c_compile_truth_46 : EC := c46_9
theorem k_46 : ecF Tryd.prog 46 = some (4, c_compile_truth_46, [.tm 2]) := by kernel_rfl

/-- tallystone/compile.product -/
@[simp] def c47_0l : List EO := [o 4 .mv [i 0],
 o 5 .mv [b false]]
def c47_0 : EC := .rg c47_0l false
@[simp] theorem c47_0e : Rg c47_0 c47_0l false := rgE _ _
@[simp] def c47_1l : List EO := [m 6 0,
 o 7 (.bin .eql) [t 6, i 0],
 m 8 7,
 n 9 8 .mv [t 1],
 n 10 8 (.bin .eql) [t 9, i 0],
 o 11 .pick [t 8, b true, t 10]]
def c47_1 : EC := .rg c47_1l false
@[simp] theorem c47_1e : Rg c47_1 c47_1l false := rgE _ _
@[simp] def c47_2l : List EO := [o 4 .mv [i 0],
 o 5 .mv [b true]]
def c47_2 : EC := .rg c47_2l false
@[simp] theorem c47_2e : Rg c47_2 c47_2l false := rgE _ _
def c47_3 : EC := .sq c47_2 .rt
@[simp] theorem c47_3e : Sq c47_3 c47_2 .rt := sqE _ _
def c47_4 : EC := .cd (t 11) c47_3 .skip
@[simp] theorem c47_4e : Cd c47_4 (t 11) c47_3 .skip := cdE _ _ _
def c47_5 : EC := .sq c47_1 c47_4
@[simp] theorem c47_5e : Sq c47_5 c47_1 c47_4 := sqE _ _
@[simp] def c47_6l : List EO := [m 12 1,
 m 13 1,
 o 14 (.un .neg) [t 13],
 o 15 (.mm true) [t 12, t 14],
 m 16 0,
 m 17 0,
 o 18 (.un .neg) [t 17],
 o 19 (.mm true) [t 16, t 18],
 o 20 (.bin .quo) [i 1000000000000, t 19],
 o 21 (.bin .gtr) [t 15, t 20]]
def c47_6 : EC := .rg c47_6l false
@[simp] theorem c47_6e : Rg c47_6 c47_6l false := rgE _ _
@[simp] def c47_7l : List EO := [o 4 .mv [i 0],
 o 5 .mv [b false]]
def c47_7 : EC := .rg c47_7l false
@[simp] theorem c47_7e : Rg c47_7 c47_7l false := rgE _ _
def c47_8 : EC := .sq c47_7 .rt
@[simp] theorem c47_8e : Sq c47_8 c47_7 .rt := sqE _ _
def c47_9 : EC := .cd (t 21) c47_8 .skip
@[simp] theorem c47_9e : Cd c47_9 (t 21) c47_8 .skip := cdE _ _ _
def c47_10 : EC := .sq c47_6 c47_9
@[simp] theorem c47_10e : Sq c47_10 c47_6 c47_9 := sqE _ _
@[simp] def c47_11l : List EO := [m 22 0,
 m 23 1,
 o 24 (.bin .mul) [t 22, t 23],
 m 4 24,
 o 5 .mv [b true]]
def c47_11 : EC := .rg c47_11l false
@[simp] theorem c47_11e : Rg c47_11 c47_11l false := rgE _ _
def c47_12 : EC := .sq c47_11 .rt
@[simp] theorem c47_12e : Sq c47_12 c47_11 .rt := sqE _ _
def c47_13 : EC := .sq c47_10 c47_12
@[simp] theorem c47_13e : Sq c47_13 c47_10 c47_12 := sqE _ _
def c47_14 : EC := .sq c47_5 c47_13
@[simp] theorem c47_14e : Sq c47_14 c47_5 c47_13 := sqE _ _
def c47_15 : EC := .sq c47_0 c47_14
@[simp] theorem c47_15e : Sq c47_15 c47_0 c47_14 := sqE _ _
def c_compile_product_47 : EC := c47_15
theorem k_47 : ecF Tryd.prog 47 = some (25, c_compile_product_47, [.tm 4, .tm 5]) := by kernel_rfl

/-- tallystone/tallystoneref34.truth -/
@[simp] def c48_0l : List EO := [o 2 .mv [i 0]]
def c48_0 : EC := .rg c48_0l false
@[simp] theorem c48_0e : Rg c48_0 c48_0l false := rgE _ _
@[simp] def c48_1l : List EO := [m 3 0]
def c48_1 : EC := .rg c48_1l false
@[simp] theorem c48_1e : Rg c48_1 c48_1l false := rgE _ _
@[simp] def c48_2l : List EO := [o 2 .mv [i 1]]
def c48_2 : EC := .rg c48_2l false
@[simp] theorem c48_2e : Rg c48_2 c48_2l false := rgE _ _
def c48_3 : EC := .sq c48_2 .rt
@[simp] theorem c48_3e : Sq c48_3 c48_2 .rt := sqE _ _
def c48_4 : EC := .cd (t 3) c48_3 .skip
@[simp] theorem c48_4e : Cd c48_4 (t 3) c48_3 .skip := cdE _ _ _
def c48_5 : EC := .sq c48_1 c48_4
@[simp] theorem c48_5e : Sq c48_5 c48_1 c48_4 := sqE _ _
@[simp] def c48_6l : List EO := [o 2 .mv [i 0]]
def c48_6 : EC := .rg c48_6l false
@[simp] theorem c48_6e : Rg c48_6 c48_6l false := rgE _ _
def c48_7 : EC := .sq c48_6 .rt
@[simp] theorem c48_7e : Sq c48_7 c48_6 .rt := sqE _ _
def c48_8 : EC := .sq c48_5 c48_7
@[simp] theorem c48_8e : Sq c48_8 c48_5 c48_7 := sqE _ _
def c48_9 : EC := .sq c48_0 c48_8
@[simp] theorem c48_9e : Sq c48_9 c48_0 c48_8 := sqE _ _
def c_tallystoneref34_truth_48 : EC := c48_9
theorem k_48 : ecF Tryd.prog 48 = some (4, c_tallystoneref34_truth_48, [.tm 2]) := by kernel_rfl

/-- tallystone/tallystoneref32.size -/
@[simp] def c49_0l : List EO := [o 2 .box [t 0],
 o 4 .mv [i 0]]
def c49_0 : EC := .rg c49_0l false
@[simp] theorem c49_0e : Rg c49_0 c49_0l false := rgE _ _
@[simp] def c49_1l : List EO := [o 5 .mv [i 1]]
def c49_1 : EC := .rg c49_1l false
@[simp] theorem c49_1e : Rg c49_1 c49_1l false := rgE _ _
@[simp] def c49_2l : List EO := [o 6 .mv [i 0]]
def c49_2 : EC := .rg c49_2l false
@[simp] theorem c49_2e : Rg c49_2 c49_2l false := rgE _ _
@[simp] def c49_3l : List EO := [m 7 6,
 o 8 (.faddr 5) [t 2],
 o 9 (.load 1 false) [t 8],
 o 10 .lenL [t 9],
 o 11 (.bin .lss) [t 7, t 10],
 m 12 11,
 y 13 12 .mv [t 5],
 y 14 12 .mv [t 1],
 y 15 12 (.bin .lss) [t 13, t 14],
 o 16 .pick [t 12, t 15, b false]]
def c49_3 : EC := .rg c49_3l false
@[simp] theorem c49_3e : Rg c49_3 c49_3l false := rgE _ _
def c49_4 : EC := .cd (t 16) .skip (.ex 0)
@[simp] theorem c49_4e : Cd c49_4 (t 16) .skip (.ex 0) := cdE _ _ _
def c49_5 : EC := .sq c49_3 c49_4
@[simp] theorem c49_5e : Sq c49_5 c49_3 c49_4 := sqE _ _
@[simp] def c49_6l : List EO := [m 19 5,
 o 20 (.faddr 5) [t 2],
 o 21 (.load 1 false) [t 20],
 m 22 6,
 o 23 (.iaS 6) [t 21, t 22],
 o 24 (.load 6 true) [t 23],
 m 25 1,
 m 26 5,
 o 27 (.bin .sub) [t 25, t 26],
 o 28 (.call 49) [t 24, t 27],
 o 29 (.bin .add) [t 19, t 28],
 m 5 29]
def c49_6 : EC := .rg c49_6l false
@[simp] theorem c49_6e : Rg c49_6 c49_6l false := rgE _ _
def c49_7 : EC := .bk 1 c49_6
@[simp] theorem c49_7e : Bk c49_7 1 c49_6 := bkE _ _
@[simp] def c49_8l : List EO := [m 17 6,
 o 18 (.bin .add) [t 17, i 1],
 m 6 18]
def c49_8 : EC := .rg c49_8l false
@[simp] theorem c49_8e : Rg c49_8 c49_8l false := rgE _ _
def c49_9 : EC := .sq c49_7 c49_8
@[simp] theorem c49_9e : Sq c49_9 c49_7 c49_8 := sqE _ _
def c49_10 : EC := .sq c49_5 c49_9
@[simp] theorem c49_10e : Sq c49_10 c49_5 c49_9 := sqE _ _
def c49_11 : EC := .bk 0 (.lp c49_10)
@[simp] theorem c49_11e : Bk c49_11 0 (.lp c49_10) := bkE _ _
def c49_12 : EC := .sq c49_2 c49_11
@[simp] theorem c49_12e : Sq c49_12 c49_2 c49_11 := sqE _ _
@[simp] def c49_13l : List EO := [m 30 5,
 m 4 30]
def c49_13 : EC := .rg c49_13l false
@[simp] theorem c49_13e : Rg c49_13 c49_13l false := rgE _ _
def c49_14 : EC := .sq c49_13 .rt
@[simp] theorem c49_14e : Sq c49_14 c49_13 .rt := sqE _ _
def c49_15 : EC := .sq c49_12 c49_14
@[simp] theorem c49_15e : Sq c49_15 c49_12 c49_14 := sqE _ _
def c49_16 : EC := .sq c49_1 c49_15
@[simp] theorem c49_16e : Sq c49_16 c49_1 c49_15 := sqE _ _
def c49_17 : EC := .sq c49_0 c49_16
@[simp] theorem c49_17e : Sq c49_17 c49_0 c49_16 := sqE _ _
def c_tallystoneref32_size_49 : EC := c49_17
theorem k_49 : ecF Tryd.prog 49 = some (31, c_tallystoneref32_size_49, [.tm 4]) := by kernel_rfl

/-- tallystone/syntax.Valid -/
@[simp] def c50_0l : List EO := [o 2 .mv [b false]]
def c50_0 : EC := .rg c50_0l false
@[simp] theorem c50_0e : Rg c50_0 c50_0l false := rgE _ _
@[simp] def c50_1l : List EO := [m 5 0,
 o 6 .lenL [t 5],
 o 7 .mv [i 0]]
def c50_1 : EC := .rg c50_1l false
@[simp] theorem c50_1e : Rg c50_1 c50_1l false := rgE _ _
@[simp] def c50_2l : List EO := [o 8 (.bin .lss) [t 7, t 6]]
def c50_2 : EC := .rg c50_2l false
@[simp] theorem c50_2e : Rg c50_2 c50_2l false := rgE _ _
def c50_3 : EC := .cd (t 8) .skip (.ex 0)
@[simp] theorem c50_3e : Cd c50_3 (t 8) .skip (.ex 0) := cdE _ _ _
@[simp] def c50_4l : List EO := [o 9 (.iaS 4) [t 5, t 7],
 o 10 (.load 4 true) [t 9],
 o 4 (.alloc [.t (.str []), .t (.bool false), .snil, .t (.int .i64 0)]) [],
 u (.store 4) [t 4, t 10]]
def c50_4 : EC := .rg c50_4l false
@[simp] theorem c50_4e : Rg c50_4 c50_4l false := rgE _ _
@[simp] def c50_5l : List EO := [o 11 (.faddr 0) [t 4],
 o 12 (.load 1 false) [t 11],
 o 13 (.call 86) [t 12],
 o 14 (.un .not) [t 13],
 m 15 14,
 n 16 15 (.faddr 2) [t 4],
 n 17 15 (.load 1 false) [t 16],
 n 18 15 .lenL [t 17],
 n 19 15 (.bin .gtr) [t 18, i 30],
 o 20 .pick [t 15, b true, t 19],
 m 21 20,
 n 22 21 (.faddr 3) [t 4],
 n 23 21 (.load 1 false) [t 22],
 n 24 21 (.call 87) [t 23],
 n 25 21 (.un .not) [t 24],
 o 26 .pick [t 21, b true, t 25],
 m 27 26,
 n 28 27 (.faddr 2) [t 4],
 n 29 27 (.load 1 false) [t 28],
 n 30 27 (.call 82) [t 29, c (.fn (.func 88) [])],
 o 31 .pick [t 27, b true, t 30]]
def c50_5 : EC := .rg c50_5l false
@[simp] theorem c50_5e : Rg c50_5 c50_5l false := rgE _ _
@[simp] def c50_6l : List EO := [o 2 .mv [b false]]
def c50_6 : EC := .rg c50_6l false
@[simp] theorem c50_6e : Rg c50_6 c50_6l false := rgE _ _
def c50_7 : EC := .sq c50_6 .rt
@[simp] theorem c50_7e : Sq c50_7 c50_6 .rt := sqE _ _
def c50_8 : EC := .cd (t 31) c50_7 .skip
@[simp] theorem c50_8e : Cd c50_8 (t 31) c50_7 .skip := cdE _ _ _
def c50_9 : EC := .sq c50_5 c50_8
@[simp] theorem c50_9e : Sq c50_9 c50_5 c50_8 := sqE _ _
def c50_10 : EC := .sq c50_4 c50_9
@[simp] theorem c50_10e : Sq c50_10 c50_4 c50_9 := sqE _ _
def c50_11 : EC := .bk 1 c50_10
@[simp] theorem c50_11e : Bk c50_11 1 c50_10 := bkE _ _
@[simp] def c50_12l : List EO := [o 32 (.bin .add) [t 7, i 1],
 m 7 32]
def c50_12 : EC := .rg c50_12l false
@[simp] theorem c50_12e : Rg c50_12 c50_12l false := rgE _ _
def c50_13 : EC := .sq c50_11 c50_12
@[simp] theorem c50_13e : Sq c50_13 c50_11 c50_12 := sqE _ _
def c50_14 : EC := .sq c50_3 c50_13
@[simp] theorem c50_14e : Sq c50_14 c50_3 c50_13 := sqE _ _
def c50_15 : EC := .sq c50_2 c50_14
@[simp] theorem c50_15e : Sq c50_15 c50_2 c50_14 := sqE _ _
def c50_16 : EC := .bk 0 (.lp c50_15)
@[simp] theorem c50_16e : Bk c50_16 0 (.lp c50_15) := bkE _ _
def c50_17 : EC := .sq c50_1 c50_16
@[simp] theorem c50_17e : Sq c50_17 c50_1 c50_16 := sqE _ _
@[simp] def c50_18l : List EO := [m 33 0,
 o 34 .lenL [t 33],
 o 35 (.bin .leq) [t 34, i 40],
 m 2 35]
def c50_18 : EC := .rg c50_18l false
@[simp] theorem c50_18e : Rg c50_18 c50_18l false := rgE _ _
def c50_19 : EC := .sq c50_18 .rt
@[simp] theorem c50_19e : Sq c50_19 c50_18 .rt := sqE _ _
def c50_20 : EC := .sq c50_17 c50_19
@[simp] theorem c50_20e : Sq c50_20 c50_17 c50_19 := sqE _ _
def c50_21 : EC := .sq c50_0 c50_20
@[simp] theorem c50_21e : Sq c50_21 c50_0 c50_20 := sqE _ _
def c_syntax_Valid_50 : EC := c50_21
theorem k_50 : ecF Tryd.prog 50 = some (36, c_syntax_Valid_50, [.tm 2]) := by kernel_rfl

/-- tallystone/tallystoneref33.Infer -/
@[simp] def c54_0l : List EO := [o 3 .box [t 0],
 o 6 .mv [i 0],
 o 7 .mv [i 0]]
def c54_0 : EC := .rg c54_0l false
@[simp] theorem c54_0e : Rg c54_0 c54_0l false := rgE _ _
@[simp] def c54_1l : List EO := [o 15 (.faddr 0) [t 3],
 o 16 (.load 1 false) [t 15],
 o 17 (.call 91) [t 16],
 m 14 17,
 o 18 (.ext 0) [t 14],
 o 19 (.ext 1) [t 14],
 m 8 18,
 m 9 19]
def c54_1 : EC := .rg c54_1l false
@[simp] theorem c54_1e : Rg c54_1 c54_1l false := rgE _ _
@[simp] def c54_2l : List EO := [o 10 .mv [b false]]
def c54_2 : EC := .rg c54_2l false
@[simp] theorem c54_2e : Rg c54_2 c54_2l false := rgE _ _
@[simp] def c54_3l : List EO := [o 11 .mv [i 0]]
def c54_3 : EC := .rg c54_3l false
@[simp] theorem c54_3e : Rg c54_3 c54_3l false := rgE _ _
@[simp] def c54_4l : List EO := [m 20 11,
 o 21 (.faddr 5) [t 3],
 o 22 (.load 1 false) [t 21],
 o 23 .lenL [t 22],
 o 24 (.bin .lss) [t 20, t 23]]
def c54_4 : EC := .rg c54_4l false
@[simp] theorem c54_4e : Rg c54_4 c54_4l false := rgE _ _
def c54_5 : EC := .cd (t 24) .skip (.ex 0)
@[simp] theorem c54_5e : Cd c54_5 (t 24) .skip (.ex 0) := cdE _ _ _
def c54_6 : EC := .sq c54_4 c54_5
@[simp] theorem c54_6e : Sq c54_6 c54_4 c54_5 := sqE _ _
@[simp] def c54_7l : List EO := [o 28 (.faddr 5) [t 3],
 o 29 (.load 1 false) [t 28],
 m 30 11,
 o 31 (.iaS 6) [t 29, t 30],
 o 32 (.load 6 true) [t 31],
 m 33 1,
 m 34 2,
 o 35 (.call 54) [t 32, t 33, t 34],
 m 27 35,
 o 36 (.ext 0) [t 27],
 o 37 (.ext 1) [t 27],
 m 12 36,
 m 13 37]
def c54_7 : EC := .rg c54_7l false
@[simp] theorem c54_7e : Rg c54_7 c54_7l false := rgE _ _
@[simp] def c54_8l : List EO := [m 38 13,
 o 39 (.bin .neq) [t 38, i 0]]
def c54_8 : EC := .rg c54_8l false
@[simp] theorem c54_8e : Rg c54_8 c54_8l false := rgE _ _
@[simp] def c54_9l : List EO := [m 40 13,
 o 6 .mv [i 0],
 m 7 40]
def c54_9 : EC := .rg c54_9l false
@[simp] theorem c54_9e : Rg c54_9 c54_9l false := rgE _ _
def c54_10 : EC := .sq c54_9 .rt
@[simp] theorem c54_10e : Sq c54_10 c54_9 .rt := sqE _ _
def c54_11 : EC := .cd (t 39) c54_10 .skip
@[simp] theorem c54_11e : Cd c54_11 (t 39) c54_10 .skip := cdE _ _ _
def c54_12 : EC := .sq c54_8 c54_11
@[simp] theorem c54_12e : Sq c54_12 c54_8 c54_11 := sqE _ _
@[simp] def c54_13l : List EO := [m 41 10,
 m 42 41,
 n 43 42 .mv [t 12],
 n 44 42 .mv [t 9],
 n 45 42 (.bin .neq) [t 43, t 44],
 o 46 .pick [t 42, b true, t 45],
 m 10 46]
def c54_13 : EC := .rg c54_13l false
@[simp] theorem c54_13e : Rg c54_13 c54_13l false := rgE _ _
def c54_14 : EC := .sq c54_12 c54_13
@[simp] theorem c54_14e : Sq c54_14 c54_12 c54_13 := sqE _ _
def c54_15 : EC := .sq c54_7 c54_14
@[simp] theorem c54_15e : Sq c54_15 c54_7 c54_14 := sqE _ _
def c54_16 : EC := .bk 1 c54_15
@[simp] theorem c54_16e : Bk c54_16 1 c54_15 := bkE _ _
@[simp] def c54_17l : List EO := [m 25 11,
 o 26 (.bin .add) [t 25, i 1],
 m 11 26]
def c54_17 : EC := .rg c54_17l false
@[simp] theorem c54_17e : Rg c54_17 c54_17l false := rgE _ _
def c54_18 : EC := .sq c54_16 c54_17
@[simp] theorem c54_18e : Sq c54_18 c54_16 c54_17 := sqE _ _
def c54_19 : EC := .sq c54_6 c54_18
@[simp] theorem c54_19e : Sq c54_19 c54_6 c54_18 := sqE _ _
def c54_20 : EC := .bk 0 (.lp c54_19)
@[simp] theorem c54_20e : Bk c54_20 0 (.lp c54_19) := bkE _ _
def c54_21 : EC := .sq c54_3 c54_20
@[simp] theorem c54_21e : Sq c54_21 c54_3 c54_20 := sqE _ _
@[simp] def c54_22l : List EO := [m 48 10,
 m 47 48]
def c54_22 : EC := .rg c54_22l false
@[simp] theorem c54_22e : Rg c54_22 c54_22l false := rgE _ _
@[simp] def c54_23l : List EO := [o 6 .mv [i 0],
 o 7 .mv [i 16]]
def c54_23 : EC := .rg c54_23l false
@[simp] theorem c54_23e : Rg c54_23 c54_23l false := rgE _ _
def c54_24 : EC := .sq c54_23 .rt
@[simp] theorem c54_24e : Sq c54_24 c54_23 .rt := sqE _ _
@[simp] def c54_25l : List EO := [o 50 (.faddr 0) [t 3],
 o 51 (.load 1 false) [t 50],
 o 52 (.bin .eql) [t 51, i 2],
 m 53 52,
 y 54 53 .mv [t 1],
 y 55 53 (.faddr 4) [t 3],
 y 56 53 (.load 1 false) [t 55],
 y 57 53 (.call 37) [t 54, t 56],
 y 58 53 (.un .not) [t 57],
 o 59 .pick [t 53, t 58, b false],
 m 49 59]
def c54_25 : EC := .rg c54_25l false
@[simp] theorem c54_25e : Rg c54_25 c54_25l false := rgE _ _
@[simp] def c54_26l : List EO := [o 6 .mv [i 0],
 o 7 .mv [i 17]]
def c54_26 : EC := .rg c54_26l false
@[simp] theorem c54_26e : Rg c54_26 c54_26l false := rgE _ _
def c54_27 : EC := .sq c54_26 .rt
@[simp] theorem c54_27e : Sq c54_27 c54_26 .rt := sqE _ _
@[simp] def c54_28l : List EO := [o 61 (.faddr 0) [t 3],
 o 62 (.load 1 false) [t 61],
 o 63 (.bin .eql) [t 62, i 21],
 m 64 63,
 n 65 64 (.faddr 0) [t 3],
 n 66 64 (.load 1 false) [t 65],
 n 67 64 (.bin .eql) [t 66, i 22],
 o 68 .pick [t 64, b true, t 67],
 m 69 68,
 y 70 69 (.faddr 2) [t 3],
 y 71 69 (.load 1 false) [t 70],
 y 72 69 (.faddr 3) [t 3],
 y 73 69 (.load 1 false) [t 72],
 y 74 69 (.bin .gtr) [t 71, t 73],
 o 75 .pick [t 69, t 74, b false],
 m 60 75]
def c54_28 : EC := .rg c54_28l false
@[simp] theorem c54_28e : Rg c54_28 c54_28l false := rgE _ _
@[simp] def c54_29l : List EO := [o 6 .mv [i 0],
 o 7 .mv [i 2]]
def c54_29 : EC := .rg c54_29l false
@[simp] theorem c54_29e : Rg c54_29 c54_29l false := rgE _ _
def c54_30 : EC := .sq c54_29 .rt
@[simp] theorem c54_30e : Sq c54_30 c54_29 .rt := sqE _ _
@[simp] def c54_31l : List EO := [o 77 (.faddr 0) [t 3],
 o 78 (.load 1 false) [t 77],
 o 79 (.bin .eql) [t 78, i 22],
 m 80 79,
 y 81 80 .mv [t 2],
 y 82 80 (.un .not) [t 81],
 o 83 .pick [t 80, t 82, b false],
 m 76 83]
def c54_31 : EC := .rg c54_31l false
@[simp] theorem c54_31e : Rg c54_31 c54_31l false := rgE _ _
@[simp] def c54_32l : List EO := [o 6 .mv [i 0],
 o 7 .mv [i 7]]
def c54_32 : EC := .rg c54_32l false
@[simp] theorem c54_32e : Rg c54_32 c54_32l false := rgE _ _
def c54_33 : EC := .sq c54_32 .rt
@[simp] theorem c54_33e : Sq c54_33 c54_32 .rt := sqE _ _
def c54_34 : EC := .cd (t 76) c54_33 .skip
@[simp] theorem c54_34e : Cd c54_34 (t 76) c54_33 .skip := cdE _ _ _
def c54_35 : EC := .sq c54_31 c54_34
@[simp] theorem c54_35e : Sq c54_35 c54_31 c54_34 := sqE _ _
def c54_36 : EC := .cd (t 60) c54_30 c54_35
@[simp] theorem c54_36e : Cd c54_36 (t 60) c54_30 c54_35 := cdE _ _ _
def c54_37 : EC := .sq c54_28 c54_36
@[simp] theorem c54_37e : Sq c54_37 c54_28 c54_36 := sqE _ _
def c54_38 : EC := .cd (t 49) c54_27 c54_37
@[simp] theorem c54_38e : Cd c54_38 (t 49) c54_27 c54_37 := cdE _ _ _
def c54_39 : EC := .sq c54_25 c54_38
@[simp] theorem c54_39e : Sq c54_39 c54_25 c54_38 := sqE _ _
def c54_40 : EC := .cd (t 47) c54_24 c54_39
@[simp] theorem c54_40e : Cd c54_40 (t 47) c54_24 c54_39 := cdE _ _ _
def c54_41 : EC := .sq c54_22 c54_40
@[simp] theorem c54_41e : Sq c54_41 c54_22 c54_40 := sqE _ _
def c54_42 : EC := .bk 2 c54_41
@[simp] theorem c54_42e : Bk c54_42 2 c54_41 := bkE _ _
@[simp] def c54_43l : List EO := [m 84 8,
 m 6 84,
 o 7 .mv [i 0]]
def c54_43 : EC := .rg c54_43l false
@[simp] theorem c54_43e : Rg c54_43 c54_43l false := rgE _ _
def c54_44 : EC := .sq c54_43 .rt
@[simp] theorem c54_44e : Sq c54_44 c54_43 .rt := sqE _ _
def c54_45 : EC := .sq c54_42 c54_44
@[simp] theorem c54_45e : Sq c54_45 c54_42 c54_44 := sqE _ _
def c54_46 : EC := .sq c54_21 c54_45
@[simp] theorem c54_46e : Sq c54_46 c54_21 c54_45 := sqE _ _
def c54_47 : EC := .sq c54_2 c54_46
@[simp] theorem c54_47e : Sq c54_47 c54_2 c54_46 := sqE _ _
def c54_48 : EC := .sq c54_1 c54_47
@[simp] theorem c54_48e : Sq c54_48 c54_1 c54_47 := sqE _ _
def c54_49 : EC := .sq c54_0 c54_48
@[simp] theorem c54_49e : Sq c54_49 c54_0 c54_48 := sqE _ _
def c_tallystoneref33_Infer_54 : EC := c54_49
theorem k_54 : ecF Tryd.prog 54 = some (85, c_tallystoneref33_Infer_54, [.tm 6, .tm 7]) := by kernel_rfl

/-- tallystone/compile.measure -/
@[simp] def c55_0l : List EO := [o 1 .box [t 0],
 o 2 .mv [i 0],
 o 3 .mv [b false]]
def c55_0 : EC := .rg c55_0l false
@[simp] theorem c55_0e : Rg c55_0 c55_0l false := rgE _ _
@[simp] def c55_1l : List EO := [o 4 .mv [i 0],
 o 5 .mv [i 0],
 o 6 .mv [i 0]]
def c55_1 : EC := .rg c55_1l false
@[simp] theorem c55_1e : Rg c55_1 c55_1l false := rgE _ _
@[simp] def c55_2l : List EO := [o 11 (.faddr 2) [t 1],
 o 12 (.load 1 false) [t 11],
 o 13 .lenL [t 12],
 o 14 (.bin .eql) [t 13, i 0]]
def c55_2 : EC := .rg c55_2l false
@[simp] theorem c55_2e : Rg c55_2 c55_2l false := rgE _ _
@[simp] def c55_3l : List EO := [o 2 .mv [i 0],
 o 3 .mv [b false]]
def c55_3 : EC := .rg c55_3l false
@[simp] theorem c55_3e : Rg c55_3 c55_3l false := rgE _ _
def c55_4 : EC := .sq c55_3 .rt
@[simp] theorem c55_4e : Sq c55_4 c55_3 .rt := sqE _ _
def c55_5 : EC := .cd (t 14) c55_4 .skip
@[simp] theorem c55_5e : Cd c55_5 (t 14) c55_4 .skip := cdE _ _ _
def c55_6 : EC := .sq c55_2 c55_5
@[simp] theorem c55_6e : Sq c55_6 c55_2 c55_5 := sqE _ _
@[simp] def c55_7l : List EO := [o 15 (.call 57) [],
 o 7 (.alloc [.t (.str []), .t (.int .i64 0), .t (.int .i64 0), .t (.int .i64 0), .t (.str []), .t (.int .i64 0), .t (.int .i64 0), .t (.int .i64 0), .t (.str []), .t (.int .i64 0), .t (.int .i64 0), .t (.int .i64 0), .t (.str []), .t (.int .i64 0), .t (.int .i64 0), .t (.int .i64 0), .t (.str []), .t (.int .i64 0), .t (.int .i64 0), .t (.int .i64 0), .t (.str []), .t (.int .i64 0), .t (.int .i64 0), .t (.int .i64 0), .t (.str []), .t (.int .i64 0), .t (.int .i64 0), .t (.int .i64 0), .t (.str []), .t (.int .i64 0), .t (.int .i64 0), .t (.int .i64 0), .t (.str []), .t (.int .i64 0), .t (.int .i64 0), .t (.int .i64 0), .t (.str []), .t (.int .i64 0), .t (.int .i64 0), .t (.int .i64 0), .t (.str []), .t (.int .i64 0), .t (.int .i64 0), .t (.int .i64 0), .t (.str []), .t (.int .i64 0), .t (.int .i64 0), .t (.int .i64 0), .t (.str []), .t (.int .i64 0), .t (.int .i64 0), .t (.int .i64 0), .t (.str []), .t (.int .i64 0), .t (.int .i64 0), .t (.int .i64 0), .t (.str []), .t (.int .i64 0), .t (.int .i64 0), .t (.int .i64 0), .t (.str []), .t (.int .i64 0), .t (.int .i64 0), .t (.int .i64 0), .t (.str []), .t (.int .i64 0), .t (.int .i64 0), .t (.int .i64 0), .t (.str []), .t (.int .i64 0), .t (.int .i64 0), .t (.int .i64 0), .t (.str []), .t (.int .i64 0), .t (.int .i64 0), .t (.int .i64 0), .t (.str []), .t (.int .i64 0), .t (.int .i64 0), .t (.int .i64 0), .t (.str []), .t (.int .i64 0), .t (.int .i64 0), .t (.int .i64 0), .t (.str []), .t (.int .i64 0), .t (.int .i64 0), .t (.int .i64 0), .t (.str []), .t (.int .i64 0), .t (.int .i64 0), .t (.int .i64 0), .t (.str []), .t (.int .i64 0), .t (.int .i64 0), .t (.int .i64 0), .t (.str []), .t (.int .i64 0), .t (.int .i64 0), .t (.int .i64 0), .t (.str []), .t (.int .i64 0), .t (.int .i64 0), .t (.int .i64 0), .t (.str []), .t (.int .i64 0), .t (.int .i64 0), .t (.int .i64 0)]) [],
 u (.store 108) [t 7, t 15]]
def c55_7 : EC := .rg c55_7l false
@[simp] theorem c55_7e : Rg c55_7 c55_7l false := rgE _ _
@[simp] def c55_8l : List EO := [o 16 (.faddr 2) [t 1],
 o 17 (.load 1 false) [t 16],
 o 18 .lenL [t 17],
 o 19 .mv [i 0]]
def c55_8 : EC := .rg c55_8l false
@[simp] theorem c55_8e : Rg c55_8 c55_8l false := rgE _ _
@[simp] def c55_9l : List EO := [o 20 (.bin .lss) [t 19, t 18]]
def c55_9 : EC := .rg c55_9l false
@[simp] theorem c55_9e : Rg c55_9 c55_9l false := rgE _ _
def c55_10 : EC := .cd (t 20) .skip (.ex 0)
@[simp] theorem c55_10e : Cd c55_10 (t 20) .skip (.ex 0) := cdE _ _ _
@[simp] def c55_11l : List EO := [m 21 19,
 o 22 (.iaS 3) [t 17, t 19],
 o 23 (.load 3 true) [t 22],
 o 9 (.alloc [.t (.int .i64 0), .t (.int .i64 0), .t (.int .i64 0)]) [],
 m 8 21,
 u (.store 3) [t 9, t 23]]
def c55_11 : EC := .rg c55_11l false
@[simp] theorem c55_11e : Rg c55_11 c55_11l false := rgE _ _
@[simp] def c55_12l : List EO := [o 24 (.faddr 0) [t 9],
 o 25 (.load 1 false) [t 24],
 o 26 (.bin .lss) [t 25, i 1],
 m 27 26,
 n 28 27 (.faddr 0) [t 9],
 n 29 27 (.load 1 false) [t 28],
 n 30 27 (.bin .gtr) [t 29, i 26],
 o 31 .pick [t 27, b true, t 30],
 m 32 31,
 n 33 32 (.faddr 0) [t 9],
 n 34 32 (.load 1 false) [t 33],
 n 35 32 (.bin .eql) [t 34, i 26],
 n 36 32 .mv [t 8],
 n 37 32 (.faddr 2) [t 1],
 n 38 32 (.load 1 false) [t 37],
 n 39 32 .lenL [t 38],
 n 40 32 (.bin .sub) [t 39, i 1],
 n 41 32 (.bin .eql) [t 36, t 40],
 n 42 32 (.eqv true false [0]) [t 35, t 41],
 o 43 .pick [t 32, b true, t 42],
 m 44 43,
 n 45 44 (.load 3 true) [t 9],
 n 46 44 (.load 3 true) [t 1],
 n 47 44 .mv [t 6],
 n 48 44 (.call 92) [t 45, t 46, t 47],
 n 49 44 (.un .not) [t 48],
 o 50 .pick [t 44, b true, t 49]]
def c55_12 : EC := .rg c55_12l false
@[simp] theorem c55_12e : Rg c55_12 c55_12l false := rgE _ _
@[simp] def c55_13l : List EO := [o 2 .mv [i 0],
 o 3 .mv [b false]]
def c55_13 : EC := .rg c55_13l false
@[simp] theorem c55_13e : Rg c55_13 c55_13l false := rgE _ _
def c55_14 : EC := .sq c55_13 .rt
@[simp] theorem c55_14e : Sq c55_14 c55_13 .rt := sqE _ _
def c55_15 : EC := .cd (t 50) c55_14 .skip
@[simp] theorem c55_15e : Cd c55_15 (t 50) c55_14 .skip := cdE _ _ _
def c55_16 : EC := .sq c55_12 c55_15
@[simp] theorem c55_16e : Sq c55_16 c55_12 c55_15 := sqE _ _
@[simp] def c55_17l : List EO := [o 51 (.faddr 0) [t 9],
 o 52 (.load 1 false) [t 51],
 o 53 (.iaA 27 4) [t 7, t 52],
 o 54 (.load 4 true) [t 53],
 o 10 (.alloc [.t (.str []), .t (.int .i64 0), .t (.int .i64 0), .t (.int .i64 0)]) [],
 u (.store 4) [t 10, t 54]]
def c55_17 : EC := .rg c55_17l false
@[simp] theorem c55_17e : Rg c55_17 c55_17l false := rgE _ _
@[simp] def c55_18l : List EO := [m 55 5,
 o 56 (.faddr 1) [t 10],
 o 57 (.load 1 false) [t 56],
 o 58 (.bin .lss) [t 55, t 57],
 m 59 58,
 n 60 59 (.faddr 2) [t 10],
 n 61 59 (.load 1 false) [t 60],
 n 62 59 (.bin .eql) [t 61, i 0],
 n 63 59 .mv [t 62],
 y 64 63 .mv [t 5],
 y 65 63 (.faddr 1) [t 10],
 y 66 63 (.load 1 false) [t 65],
 y 67 63 (.bin .neq) [t 64, t 66],
 n 68 59 .pick [t 63, t 67, b false],
 o 69 .pick [t 59, b true, t 68]]
def c55_18 : EC := .rg c55_18l false
@[simp] theorem c55_18e : Rg c55_18 c55_18l false := rgE _ _
@[simp] def c55_19l : List EO := [o 2 .mv [i 0],
 o 3 .mv [b false]]
def c55_19 : EC := .rg c55_19l false
@[simp] theorem c55_19e : Rg c55_19 c55_19l false := rgE _ _
def c55_20 : EC := .sq c55_19 .rt
@[simp] theorem c55_20e : Sq c55_20 c55_19 .rt := sqE _ _
def c55_21 : EC := .cd (t 69) c55_20 .skip
@[simp] theorem c55_21e : Cd c55_21 (t 69) c55_20 .skip := cdE _ _ _
def c55_22 : EC := .sq c55_18 c55_21
@[simp] theorem c55_22e : Sq c55_22 c55_18 c55_21 := sqE _ _
@[simp] def c55_23l : List EO := [m 70 5,
 o 71 (.faddr 2) [t 10],
 o 72 (.load 1 false) [t 71],
 o 73 (.faddr 1) [t 10],
 o 74 (.load 1 false) [t 73],
 o 75 (.bin .sub) [t 72, t 74],
 o 76 (.bin .add) [t 70, t 75],
 m 5 76]
def c55_23 : EC := .rg c55_23l false
@[simp] theorem c55_23e : Rg c55_23 c55_23l false := rgE _ _
@[simp] def c55_24l : List EO := [m 77 4,
 m 78 5,
 o 79 (.mm true) [t 77, t 78],
 m 4 79]
def c55_24 : EC := .rg c55_24l false
@[simp] theorem c55_24e : Rg c55_24 c55_24l false := rgE _ _
@[simp] def c55_25l : List EO := [o 80 (.faddr 0) [t 9],
 o 81 (.load 1 false) [t 80],
 o 82 (.bin .eql) [t 81, i 23]]
def c55_25 : EC := .rg c55_25l false
@[simp] theorem c55_25e : Rg c55_25 c55_25l false := rgE _ _
@[simp] def c55_26l : List EO := [m 83 6,
 o 84 (.bin .add) [t 83, i 1],
 m 6 84]
def c55_26 : EC := .rg c55_26l false
@[simp] theorem c55_26e : Rg c55_26 c55_26l false := rgE _ _
def c55_27 : EC := .cd (t 82) c55_26 .skip
@[simp] theorem c55_27e : Cd c55_27 (t 82) c55_26 .skip := cdE _ _ _
def c55_28 : EC := .sq c55_25 c55_27
@[simp] theorem c55_28e : Sq c55_28 c55_25 c55_27 := sqE _ _
def c55_29 : EC := .sq c55_24 c55_28
@[simp] theorem c55_29e : Sq c55_29 c55_24 c55_28 := sqE _ _
def c55_30 : EC := .sq c55_23 c55_29
@[simp] theorem c55_30e : Sq c55_30 c55_23 c55_29 := sqE _ _
def c55_31 : EC := .sq c55_22 c55_30
@[simp] theorem c55_31e : Sq c55_31 c55_22 c55_30 := sqE _ _
def c55_32 : EC := .sq c55_17 c55_31
@[simp] theorem c55_32e : Sq c55_32 c55_17 c55_31 := sqE _ _
def c55_33 : EC := .sq c55_16 c55_32
@[simp] theorem c55_33e : Sq c55_33 c55_16 c55_32 := sqE _ _
def c55_34 : EC := .sq c55_11 c55_33
@[simp] theorem c55_34e : Sq c55_34 c55_11 c55_33 := sqE _ _
def c55_35 : EC := .bk 1 c55_34
@[simp] theorem c55_35e : Bk c55_35 1 c55_34 := bkE _ _
@[simp] def c55_36l : List EO := [o 85 (.bin .add) [t 19, i 1],
 m 19 85]
def c55_36 : EC := .rg c55_36l false
@[simp] theorem c55_36e : Rg c55_36 c55_36l false := rgE _ _
def c55_37 : EC := .sq c55_35 c55_36
@[simp] theorem c55_37e : Sq c55_37 c55_35 c55_36 := sqE _ _
def c55_38 : EC := .sq c55_10 c55_37
@[simp] theorem c55_38e : Sq c55_38 c55_10 c55_37 := sqE _ _
def c55_39 : EC := .sq c55_9 c55_38
@[simp] theorem c55_39e : Sq c55_39 c55_9 c55_38 := sqE _ _
def c55_40 : EC := .bk 0 (.lp c55_39)
@[simp] theorem c55_40e : Bk c55_40 0 (.lp c55_39) := bkE _ _
def c55_41 : EC := .sq c55_8 c55_40
@[simp] theorem c55_41e : Sq c55_41 c55_8 c55_40 := sqE _ _
@[simp] def c55_42l : List EO := [m 86 4,
 m 2 86,
 o 3 .mv [b true]]
def c55_42 : EC := .rg c55_42l false
@[simp] theorem c55_42e : Rg c55_42 c55_42l false := rgE _ _
def c55_43 : EC := .sq c55_42 .rt
@[simp] theorem c55_43e : Sq c55_43 c55_42 .rt := sqE _ _
def c55_44 : EC := .sq c55_41 c55_43
@[simp] theorem c55_44e : Sq c55_44 c55_41 c55_43 := sqE _ _
def c55_45 : EC := .sq c55_7 c55_44
@[simp] theorem c55_45e : Sq c55_45 c55_7 c55_44 := sqE _ _
def c55_46 : EC := .sq c55_6 c55_45
@[simp] theorem c55_46e : Sq c55_46 c55_6 c55_45 := sqE _ _
def c55_47 : EC := .sq c55_1 c55_46
@[simp] theorem c55_47e : Sq c55_47 c55_1 c55_46 := sqE _ _
def c55_48 : EC := .sq c55_0 c55_47
@[simp] theorem c55_48e : Sq c55_48 c55_0 c55_47 := sqE _ _
def c_compile_measure_55 : EC := c55_48
theorem k_55 : ecF Tryd.prog 55 = some (87, c_compile_measure_55, [.tm 2, .tm 3]) := by kernel_rfl

/-- tallystone/tallystoneref34.run -/
@[simp] def c56_0l : List EO := [o 1 .box [t 0],
 o 2 .mv [i 0],
 o 3 .mv [b false]]
def c56_0 : EC := .rg c56_0l false
@[simp] theorem c56_0e : Rg c56_0 c56_0l false := rgE _ _
@[simp] def c56_1l : List EO := [o 4 .mv [i 0],
 o 5 .mv [i 0],
 o 6 .mv [i 0]]
def c56_1 : EC := .rg c56_1l false
@[simp] theorem c56_1e : Rg c56_1 c56_1l false := rgE _ _
@[simp] def c56_2l : List EO := [o 7 .mv [i 0]]
def c56_2 : EC := .rg c56_2l false
@[simp] theorem c56_2e : Rg c56_2 c56_2l false := rgE _ _
@[simp] def c56_3l : List EO := [m 11 7,
 o 12 (.faddr 2) [t 1],
 o 13 (.load 1 false) [t 12],
 o 14 .lenL [t 13],
 o 15 (.bin .lss) [t 11, t 14]]
def c56_3 : EC := .rg c56_3l false
@[simp] theorem c56_3e : Rg c56_3 c56_3l false := rgE _ _
def c56_4 : EC := .cd (t 15) .skip (.ex 0)
@[simp] theorem c56_4e : Cd c56_4 (t 15) .skip (.ex 0) := cdE _ _ _
def c56_5 : EC := .sq c56_3 c56_4
@[simp] theorem c56_5e : Sq c56_5 c56_3 c56_4 := sqE _ _
@[simp] def c56_6l : List EO := [o 18 (.faddr 2) [t 1],
 o 19 (.load 1 false) [t 18],
 m 20 7,
 o 21 (.iaS 3) [t 19, t 20],
 o 22 (.load 3 true) [t 21],
 o 8 (.alloc [.t (.int .i64 0), .t (.int .i64 0), .t (.int .i64 0)]) [],
 u (.store 3) [t 8, t 22]]
def c56_6 : EC := .rg c56_6l false
@[simp] theorem c56_6e : Rg c56_6 c56_6l false := rgE _ _
@[simp] def c56_7l : List EO := [o 24 (.faddr 0) [t 8],
 o 25 (.load 1 false) [t 24],
 o 26 (.call 67) [t 25],
 m 23 26,
 o 27 (.ext 0) [t 23],
 o 28 (.ext 1) [t 23],
 m 9 27,
 m 10 28]
def c56_7 : EC := .rg c56_7l false
@[simp] theorem c56_7e : Rg c56_7 c56_7l false := rgE _ _
@[simp] def c56_8l : List EO := [o 29 (.faddr 0) [t 8],
 o 30 (.load 1 false) [t 29],
 o 31 (.bin .lss) [t 30, i 1],
 m 32 31,
 n 33 32 (.faddr 0) [t 8],
 n 34 32 (.load 1 false) [t 33],
 n 35 32 (.bin .gtr) [t 34, i 26],
 o 36 .pick [t 32, b true, t 35],
 m 37 36,
 n 38 37 (.faddr 0) [t 8],
 n 39 37 (.load 1 false) [t 38],
 n 40 37 (.call 65) [t 39],
 n 41 37 (.bin .lss) [t 40, i 2],
 n 42 37 .mv [t 41],
 y 43 42 (.faddr 2) [t 8],
 y 44 42 (.load 1 false) [t 43],
 y 45 42 (.bin .neq) [t 44, i 0],
 n 46 37 .pick [t 42, t 45, b false],
 o 47 .pick [t 37, b true, t 46],
 m 48 47,
 n 49 48 (.load 3 true) [t 8],
 n 50 48 .mv [t 6],
 n 51 48 (.faddr 1) [t 1],
 n 52 48 (.load 1 false) [t 51],
 n 53 48 (.call 93) [t 49, t 50, t 52],
 n 54 48 (.un .not) [t 53],
 o 55 .pick [t 48, b true, t 54],
 m 56 55,
 n 57 56 .mv [t 9],
 n 58 56 .mv [t 4],
 n 59 56 (.bin .gtr) [t 57, t 58],
 o 60 .pick [t 56, b true, t 59],
 m 61 60,
 n 62 61 (.faddr 0) [t 8],
 n 63 61 (.load 1 false) [t 62],
 n 64 61 (.bin .eql) [t 63, i 26],
 n 65 61 .mv [t 7],
 n 66 61 (.faddr 2) [t 1],
 n 67 61 (.load 1 false) [t 66],
 n 68 61 .lenL [t 67],
 n 69 61 (.bin .sub) [t 68, i 1],
 n 70 61 (.bin .eql) [t 65, t 69],
 n 71 61 (.eqv true false [0]) [t 64, t 70],
 o 72 .pick [t 61, b true, t 71]]
def c56_8 : EC := .rg c56_8l false
@[simp] theorem c56_8e : Rg c56_8 c56_8l false := rgE _ _
@[simp] def c56_9l : List EO := [o 2 .mv [i 0],
 o 3 .mv [b false]]
def c56_9 : EC := .rg c56_9l false
@[simp] theorem c56_9e : Rg c56_9 c56_9l false := rgE _ _
def c56_10 : EC := .sq c56_9 .rt
@[simp] theorem c56_10e : Sq c56_10 c56_9 .rt := sqE _ _
def c56_11 : EC := .cd (t 72) c56_10 .skip
@[simp] theorem c56_11e : Cd c56_11 (t 72) c56_10 .skip := cdE _ _ _
def c56_12 : EC := .sq c56_8 c56_11
@[simp] theorem c56_12e : Sq c56_12 c56_8 c56_11 := sqE _ _
@[simp] def c56_13l : List EO := [o 73 (.faddr 0) [t 8],
 o 74 (.load 1 false) [t 73],
 o 75 (.bin .geq) [t 74, i 23],
 m 76 75,
 y 77 76 .mv [t 4],
 y 78 76 .mv [t 9],
 y 79 76 (.bin .neq) [t 77, t 78],
 o 80 .pick [t 76, t 79, b false]]
def c56_13 : EC := .rg c56_13l false
@[simp] theorem c56_13e : Rg c56_13 c56_13l false := rgE _ _
@[simp] def c56_14l : List EO := [o 2 .mv [i 0],
 o 3 .mv [b false]]
def c56_14 : EC := .rg c56_14l false
@[simp] theorem c56_14e : Rg c56_14 c56_14l false := rgE _ _
def c56_15 : EC := .sq c56_14 .rt
@[simp] theorem c56_15e : Sq c56_15 c56_14 .rt := sqE _ _
def c56_16 : EC := .cd (t 80) c56_15 .skip
@[simp] theorem c56_16e : Cd c56_16 (t 80) c56_15 .skip := cdE _ _ _
def c56_17 : EC := .sq c56_13 c56_16
@[simp] theorem c56_17e : Sq c56_17 c56_13 c56_16 := sqE _ _
@[simp] def c56_18l : List EO := [o 81 (.faddr 0) [t 8],
 o 82 (.load 1 false) [t 81],
 o 83 (.bin .eql) [t 82, i 23]]
def c56_18 : EC := .rg c56_18l false
@[simp] theorem c56_18e : Rg c56_18 c56_18l false := rgE _ _
@[simp] def c56_19l : List EO := [m 84 6,
 o 85 (.bin .add) [t 84, i 1],
 m 6 85]
def c56_19 : EC := .rg c56_19l false
@[simp] theorem c56_19e : Rg c56_19 c56_19l false := rgE _ _
def c56_20 : EC := .cd (t 83) c56_19 .skip
@[simp] theorem c56_20e : Cd c56_20 (t 83) c56_19 .skip := cdE _ _ _
def c56_21 : EC := .sq c56_18 c56_20
@[simp] theorem c56_21e : Sq c56_21 c56_18 c56_20 := sqE _ _
@[simp] def c56_22l : List EO := [m 86 4,
 m 87 9,
 o 88 (.bin .sub) [t 86, t 87],
 m 89 10,
 o 90 (.bin .add) [t 88, t 89],
 m 4 90]
def c56_22 : EC := .rg c56_22l false
@[simp] theorem c56_22e : Rg c56_22 c56_22l false := rgE _ _
@[simp] def c56_23l : List EO := [m 91 5,
 m 92 4,
 o 93 (.mm true) [t 91, t 92],
 m 5 93]
def c56_23 : EC := .rg c56_23l false
@[simp] theorem c56_23e : Rg c56_23 c56_23l false := rgE _ _
def c56_24 : EC := .sq c56_22 c56_23
@[simp] theorem c56_24e : Sq c56_24 c56_22 c56_23 := sqE _ _
def c56_25 : EC := .sq c56_21 c56_24
@[simp] theorem c56_25e : Sq c56_25 c56_21 c56_24 := sqE _ _
def c56_26 : EC := .sq c56_17 c56_25
@[simp] theorem c56_26e : Sq c56_26 c56_17 c56_25 := sqE _ _
def c56_27 : EC := .sq c56_12 c56_26
@[simp] theorem c56_27e : Sq c56_27 c56_12 c56_26 := sqE _ _
def c56_28 : EC := .sq c56_7 c56_27
@[simp] theorem c56_28e : Sq c56_28 c56_7 c56_27 := sqE _ _
def c56_29 : EC := .sq c56_6 c56_28
@[simp] theorem c56_29e : Sq c56_29 c56_6 c56_28 := sqE _ _
def c56_30 : EC := .bk 1 c56_29
@[simp] theorem c56_30e : Bk c56_30 1 c56_29 := bkE _ _
@[simp] def c56_31l : List EO := [m 16 7,
 o 17 (.bin .add) [t 16, i 1],
 m 7 17]
def c56_31 : EC := .rg c56_31l false
@[simp] theorem c56_31e : Rg c56_31 c56_31l false := rgE _ _
def c56_32 : EC := .sq c56_30 c56_31
@[simp] theorem c56_32e : Sq c56_32 c56_30 c56_31 := sqE _ _
def c56_33 : EC := .sq c56_5 c56_32
@[simp] theorem c56_33e : Sq c56_33 c56_5 c56_32 := sqE _ _
def c56_34 : EC := .bk 0 (.lp c56_33)
@[simp] theorem c56_34e : Bk c56_34 0 (.lp c56_33) := bkE _ _
def c56_35 : EC := .sq c56_2 c56_34
@[simp] theorem c56_35e : Sq c56_35 c56_2 c56_34 := sqE _ _
@[simp] def c56_36l : List EO := [m 94 5,
 o 95 (.faddr 2) [t 1],
 o 96 (.load 1 false) [t 95],
 o 97 .lenL [t 96],
 o 98 (.bin .gtr) [t 97, i 0],
 m 2 94,
 m 3 98]
def c56_36 : EC := .rg c56_36l true
@[simp] theorem c56_36e : Rg c56_36 c56_36l true := rgE _ _
def c56_37 : EC := .sq c56_36 .rt
@[simp] theorem c56_37e : Sq c56_37 c56_36 .rt := sqE _ _
def c56_38 : EC := .sq c56_35 c56_37
@[simp] theorem c56_38e : Sq c56_38 c56_35 c56_37 := sqE _ _
def c56_39 : EC := .sq c56_1 c56_38
@[simp] theorem c56_39e : Sq c56_39 c56_1 c56_38 := sqE _ _
def c56_40 : EC := .sq c56_0 c56_39
@[simp] theorem c56_40e : Sq c56_40 c56_0 c56_39 := sqE _ _
def c_tallystoneref34_run_56 : EC := c56_40
theorem k_56 : ecF Tryd.prog 56 = some (99, c_tallystoneref34_run_56, [.tm 2, .tm 3]) := by kernel_rfl

/-- tallystone/compile.operations -/
@[simp] def c57_0l : List EO := [o 0 (.alloc [.t (.str []), .t (.int .i64 0), .t (.int .i64 0), .t (.int .i64 0), .t (.str []), .t (.int .i64 0), .t (.int .i64 0), .t (.int .i64 0), .t (.str []), .t (.int .i64 0), .t (.int .i64 0), .t (.int .i64 0), .t (.str []), .t (.int .i64 0), .t (.int .i64 0), .t (.int .i64 0), .t (.str []), .t (.int .i64 0), .t (.int .i64 0), .t (.int .i64 0), .t (.str []), .t (.int .i64 0), .t (.int .i64 0), .t (.int .i64 0), .t (.str []), .t (.int .i64 0), .t (.int .i64 0), .t (.int .i64 0), .t (.str []), .t (.int .i64 0), .t (.int .i64 0), .t (.int .i64 0), .t (.str []), .t (.int .i64 0), .t (.int .i64 0), .t (.int .i64 0), .t (.str []), .t (.int .i64 0), .t (.int .i64 0), .t (.int .i64 0), .t (.str []), .t (.int .i64 0), .t (.int .i64 0), .t (.int .i64 0), .t (.str []), .t (.int .i64 0), .t (.int .i64 0), .t (.int .i64 0), .t (.str []), .t (.int .i64 0), .t (.int .i64 0), .t (.int .i64 0), .t (.str []), .t (.int .i64 0), .t (.int .i64 0), .t (.int .i64 0), .t (.str []), .t (.int .i64 0), .t (.int .i64 0), .t (.int .i64 0), .t (.str []), .t (.int .i64 0), .t (.int .i64 0), .t (.int .i64 0), .t (.str []), .t (.int .i64 0), .t (.int .i64 0), .t (.int .i64 0), .t (.str []), .t (.int .i64 0), .t (.int .i64 0), .t (.int .i64 0), .t (.str []), .t (.int .i64 0), .t (.int .i64 0), .t (.int .i64 0), .t (.str []), .t (.int .i64 0), .t (.int .i64 0), .t (.int .i64 0), .t (.str []), .t (.int .i64 0), .t (.int .i64 0), .t (.int .i64 0), .t (.str []), .t (.int .i64 0), .t (.int .i64 0), .t (.int .i64 0), .t (.str []), .t (.int .i64 0), .t (.int .i64 0), .t (.int .i64 0), .t (.str []), .t (.int .i64 0), .t (.int .i64 0), .t (.int .i64 0), .t (.str []), .t (.int .i64 0), .t (.int .i64 0), .t (.int .i64 0), .t (.str []), .t (.int .i64 0), .t (.int .i64 0), .t (.int .i64 0), .t (.str []), .t (.int .i64 0), .t (.int .i64 0), .t (.int .i64 0)]) []]
def c57_0 : EC := .rg c57_0l false
@[simp] theorem c57_0e : Rg c57_0 c57_0l false := rgE _ _
@[simp] def c57_1l : List EO := [o 1 (.build [.t (.str []), .t (.int .i64 0), .t (.int .i64 0), .t (.int .i64 0)] [(0, 1), (1, 1), (2, 1), (3, 1)]) [c (.t (.str [112, 117, 115, 104])), i 0, i 1, i 1],
 o 2 (.build [.t (.str []), .t (.int .i64 0), .t (.int .i64 0), .t (.int .i64 0)] [(0, 1), (1, 1), (2, 1), (3, 1)]) [c (.t (.str [108, 111, 97, 100])), i 0, i 1, i 1],
 o 3 (.build [.t (.str []), .t (.int .i64 0), .t (.int .i64 0), .t (.int .i64 0)] [(0, 1), (1, 1), (2, 1), (3, 1)]) [c (.t (.str [98, 97, 108, 97, 110, 99, 101])), i 0, i 1, i 2],
 o 4 (.build [.t (.str []), .t (.int .i64 0), .t (.int .i64 0), .t (.int .i64 0)] [(0, 1), (1, 1), (2, 1), (3, 1)]) [c (.t (.str [112, 97, 114, 116, 110, 101, 114])), i 0, i 1, i 2],
 o 5 (.build [.t (.str []), .t (.int .i64 0), .t (.int .i64 0), .t (.int .i64 0)] [(0, 1), (1, 1), (2, 1), (3, 1)]) [c (.t (.str [110, 101, 103])), i 1, i 1, i 0],
 o 6 (.build [.t (.str []), .t (.int .i64 0), .t (.int .i64 0), .t (.int .i64 0)] [(0, 1), (1, 1), (2, 1), (3, 1)]) [c (.t (.str [97, 98, 115])), i 1, i 1, i 0],
 o 7 (.build [.t (.str []), .t (.int .i64 0), .t (.int .i64 0), .t (.int .i64 0)] [(0, 1), (1, 1), (2, 1), (3, 1)]) [c (.t (.str [115, 104, 97, 114, 101])), i 1, i 1, i 0],
 o 8 (.build [.t (.str []), .t (.int .i64 0), .t (.int .i64 0), .t (.int .i64 0)] [(0, 1), (1, 1), (2, 1), (3, 1)]) [c (.t (.str [110, 111, 116])), i 1, i 1, i 0],
 o 9 (.build [.t (.str []), .t (.int .i64 0), .t (.int .i64 0), .t (.int .i64 0)] [(0, 1), (1, 1), (2, 1), (3, 1)]) [c (.t (.str [112, 101, 114])), i 1, i 1, i 1],
 o 10 (.build [.t (.str []), .t (.int .i64 0), .t (.int .i64 0), .t (.int .i64 0)] [(0, 1), (1, 1), (2, 1), (3, 1)]) [c (.t (.str [97, 100, 100])), i 2, i 1, i 0],
 o 11 (.build [.t (.str []), .t (.int .i64 0), .t (.int .i64 0), .t (.int .i64 0)] [(0, 1), (1, 1), (2, 1), (3, 1)]) [c (.t (.str [115, 117, 98])), i 2, i 1, i 0],
 o 12 (.build [.t (.str []), .t (.int .i64 0), .t (.int .i64 0), .t (.int .i64 0)] [(0, 1), (1, 1), (2, 1), (3, 1)]) [c (.t (.str [109, 117, 108])), i 2, i 1, i 0],
 o 13 (.build [.t (.str []), .t (.int .i64 0), .t (.int .i64 0), .t (.int .i64 0)] [(0, 1), (1, 1), (2, 1), (3, 1)]) [c (.t (.str [109, 105, 110])), i 2, i 1, i 0],
 o 14 (.build [.t (.str []), .t (.int .i64 0), .t (.int .i64 0), .t (.int .i64 0)] [(0, 1), (1, 1), (2, 1), (3, 1)]) [c (.t (.str [109, 97, 120])), i 2, i 1, i 0],
 o 15 (.build [.t (.str []), .t (.int .i64 0), .t (.int .i64 0), .t (.int .i64 0)] [(0, 1), (1, 1), (2, 1), (3, 1)]) [c (.t (.str [97, 110, 100])), i 2, i 1, i 0],
 o 16 (.build [.t (.str []), .t (.int .i64 0), .t (.int .i64 0), .t (.int .i64 0)] [(0, 1), (1, 1), (2, 1), (3, 1)]) [c (.t (.str [111, 114])), i 2, i 1, i 0],
 o 17 (.build [.t (.str []), .t (.int .i64 0), .t (.int .i64 0), .t (.int .i64 0)] [(0, 1), (1, 1), (2, 1), (3, 1)]) [c (.t (.str [108, 101, 115, 115])), i 2, i 1, i 0],
 o 18 (.build [.t (.str []), .t (.int .i64 0), .t (.int .i64 0), .t (.int .i64 0)] [(0, 1), (1, 1), (2, 1), (3, 1)]) [c (.t (.str [108, 101, 115, 115, 101, 113, 117, 97, 108])), i 2, i 1, i 0],
 o 19 (.build [.t (.str []), .t (.int .i64 0), .t (.int .i64 0), .t (.int .i64 0)] [(0, 1), (1, 1), (2, 1), (3, 1)]) [c (.t (.str [101, 113, 117, 97, 108])), i 2, i 1, i 0],
 o 20 (.build [.t (.str []), .t (.int .i64 0), .t (.int .i64 0), .t (.int .i64 0)] [(0, 1), (1, 1), (2, 1), (3, 1)]) [c (.t (.str [110, 111, 116, 101, 113, 117, 97, 108])), i 2, i 1, i 0],
 o 21 (.build [.t (.str []), .t (.int .i64 0), .t (.int .i64 0), .t (.int .i64 0)] [(0, 1), (1, 1), (2, 1), (3, 1)]) [c (.t (.str [103, 114, 101, 97, 116, 101, 114, 101, 113, 117, 97, 108])), i 2, i 1, i 0],
 o 22 (.build [.t (.str []), .t (.int .i64 0), .t (.int .i64 0), .t (.int .i64 0)] [(0, 1), (1, 1), (2, 1), (3, 1)]) [c (.t (.str [103, 114, 101, 97, 116, 101, 114])), i 2, i 1, i 0],
 o 23 (.build [.t (.str []), .t (.int .i64 0), .t (.int .i64 0), .t (.int .i64 0)] [(0, 1), (1, 1), (2, 1), (3, 1)]) [c (.t (.str [115, 116, 111, 114, 101])), i 1, i 0, i 1],
 o 24 (.build [.t (.str []), .t (.int .i64 0), .t (.int .i64 0), .t (.int .i64 0)] [(0, 1), (1, 1), (2, 1), (3, 1)]) [c (.t (.str [114, 101, 113, 117, 105, 114, 101])), i 1, i 0, i 0],
 o 25 (.build [.t (.str []), .t (.int .i64 0), .t (.int .i64 0), .t (.int .i64 0)] [(0, 1), (1, 1), (2, 1), (3, 1)]) [c (.t (.str [112, 111, 115, 116])), i 1, i 0, i 1],
 o 26 (.build [.t (.str []), .t (.int .i64 0), .t (.int .i64 0), .t (.int .i64 0)] [(0, 1), (1, 1), (2, 1), (3, 1)]) [c (.t (.str [116, 111])), i 0, i 0, i 1],
 o 27 (.build [.t (.str []), .t (.int .i64 0), .t (.int .i64 0), .t (.int .i64 0), .t (.str []), .t (.int .i64 0), .t (.int .i64 0), .t (.int .i64 0), .t (.str []), .t (.int .i64 0), .t (.int .i64 0), .t (.int .i64 0), .t (.str []), .t (.int .i64 0), .t (.int .i64 0), .t (.int .i64 0), .t (.str []), .t (.int .i64 0), .t (.int .i64 0), .t (.int .i64 0), .t (.str []), .t (.int .i64 0), .t (.int .i64 0), .t (.int .i64 0), .t (.str []), .t (.int .i64 0), .t (.int .i64 0), .t (.int .i64 0), .t (.str []), .t (.int .i64 0), .t (.int .i64 0), .t (.int .i64 0), .t (.str []), .t (.int .i64 0), .t (.int .i64 0), .t (.int .i64 0), .t (.str []), .t (.int .i64 0), .t (.int .i64 0), .t (.int .i64 0), .t (.str []), .t (.int .i64 0), .t (.int .i64 0), .t (.int .i64 0), .t (.str []), .t (.int .i64 0), .t (.int .i64 0), .t (.int .i64 0), .t (.str []), .t (.int .i64 0), .t (.int .i64 0), .t (.int .i64 0), .t (.str []), .t (.int .i64 0), .t (.int .i64 0), .t (.int .i64 0), .t (.str []), .t (.int .i64 0), .t (.int .i64 0), .t (.int .i64 0), .t (.str []), .t (.int .i64 0), .t (.int .i64 0), .t (.int .i64 0), .t (.str []), .t (.int .i64 0), .t (.int .i64 0), .t (.int .i64 0), .t (.str []), .t (.int .i64 0), .t (.int .i64 0), .t (.int .i64 0), .t (.str []), .t (.int .i64 0), .t (.int .i64 0), .t (.int .i64 0), .t (.str []), .t (.int .i64 0), .t (.int .i64 0), .t (.int .i64 0), .t (.str []), .t (.int .i64 0), .t (.int .i64 0), .t (.int .i64 0), .t (.str []), .t (.int .i64 0), .t (.int .i64 0), .t (.int .i64 0), .t (.str []), .t (.int .i64 0), .t (.int .i64 0), .t (.int .i64 0), .t (.str []), .t (.int .i64 0), .t (.int .i64 0), .t (.int .i64 0), .t (.str []), .t (.int .i64 0), .t (.int .i64 0), .t (.int .i64 0), .t (.str []), .t (.int .i64 0), .t (.int .i64 0), .t (.int .i64 0), .t (.str []), .t (.int .i64 0), .t (.int .i64 0), .t (.int .i64 0)] [(4, 4), (8, 4), (12, 4), (16, 4), (20, 4), (24, 4), (28, 4), (32, 4), (36, 4), (40, 4), (44, 4), (48, 4), (52, 4), (56, 4), (60, 4), (64, 4), (68, 4), (72, 4), (76, 4), (80, 4), (84, 4), (88, 4), (92, 4), (96, 4), (100, 4), (104, 4)]) [t 1, t 2, t 3, t 4, t 5, t 6, t 7, t 8, t 9, t 10, t 11, t 12, t 13, t 14, t 15, t 16, t 17, t 18, t 19, t 20, t 21, t 22, t 23, t 24, t 25, t 26],
 u (.store 108) [t 0, t 27]]
def c57_1 : EC := .rg c57_1l false
@[simp] theorem c57_1e : Rg c57_1 c57_1l false := rgE _ _
def c57_2 : EC := .sq c57_1 .rt
@[simp] theorem c57_2e : Sq c57_2 c57_1 .rt := sqE _ _
def c57_3 : EC := .sq c57_0 c57_2
@[simp] theorem c57_3e : Sq c57_3 c57_0 c57_2 := sqE _ _
def c_compile_operations_57 : EC := c57_3
theorem k_57 : ecF Tryd.prog 57 = some (28, c_compile_operations_57, [.ce 0 108 true]) := by kernel_rfl

/-- slices.ContainsFunc[[]tallystone/compile.Ins,tallystone/compile.Ins] -/
@[simp] def c58_0l : List EO := [o 4 .mv [b false]]
def c58_0 : EC := .rg c58_0l false
@[simp] theorem c58_0e : Rg c58_0 c58_0l false := rgE _ _
@[simp] def c58_1l : List EO := [m 5 0,
 m 6 1,
 o 7 (.call 94) [t 5, t 6],
 o 8 (.bin .geq) [t 7, i 0],
 m 4 8]
def c58_1 : EC := .rg c58_1l false
@[simp] theorem c58_1e : Rg c58_1 c58_1l false := rgE _ _
def c58_2 : EC := .sq c58_1 .rt
@[simp] theorem c58_2e : Sq c58_2 c58_1 .rt := sqE _ _
def c58_3 : EC := .sq c58_0 c58_2
@[simp] theorem c58_3e : Sq c58_3 c58_0 c58_2 := sqE _ _
def c_compile_Ins__58 : EC := c58_3
theorem k_58 : ecF Tryd.prog 58 = some (9, c_compile_Ins__58, [.tm 4]) := by kernel_rfl

/-- tallystone/compile.Fold$1 -/
@[simp] def c59_0l : List EO := [o 1 .box [t 0],
 o 2 .mv [b false]]
def c59_0 : EC := .rg c59_0l false
@[simp] theorem c59_0e : Rg c59_0 c59_0l false := rgE _ _
@[simp] def c59_1l : List EO := [o 3 (.faddr 0) [t 1],
 o 4 (.load 1 false) [t 3],
 o 5 (.bin .neq) [t 4, i 1],
 m 2 5]
def c59_1 : EC := .rg c59_1l false
@[simp] theorem c59_1e : Rg c59_1 c59_1l false := rgE _ _
def c59_2 : EC := .sq c59_1 .rt
@[simp] theorem c59_2e : Sq c59_2 c59_1 .rt := sqE _ _
def c59_3 : EC := .sq c59_0 c59_2
@[simp] theorem c59_3e : Sq c59_3 c59_0 c59_2 := sqE _ _
def c_compile_FoldS1_59 : EC := c59_3
theorem k_59 : ecF Tryd.prog 59 = some (6, c_compile_FoldS1_59, [.tm 2]) := by kernel_rfl

/-- (*strings.Builder).WriteString -/
@[simp] def c60_0l : List EO := [o 4 .mv [i 0],
 o 5 .mv [c (.t (.nili))]]
def c60_0 : EC := .rg c60_0l false
@[simp] theorem c60_0e : Rg c60_0 c60_0l false := rgE _ _
@[simp] def c60_1l : List EO := [m 6 0,
 o 7 (.call 95) [t 6]]
def c60_1 : EC := .rg c60_1l false
@[simp] theorem c60_1e : Rg c60_1 c60_1l false := rgE _ _
@[simp] def c60_2l : List EO := [m 8 0,
 m 9 0,
 o 10 .nilc [t 9],
 o 11 (.faddr 1) [t 10],
 o 12 (.load 1 false) [t 11],
 m 13 1,
 o 14 (.appS 5) [t 12, t 13],
 o 15 .nilc [t 8],
 o 16 (.faddr 1) [t 15],
 u (.store 1) [t 16, t 14]]
def c60_2 : EC := .rg c60_2l false
@[simp] theorem c60_2e : Rg c60_2 c60_2l false := rgE _ _
@[simp] def c60_3l : List EO := [m 17 1,
 o 18 .lenS [t 17],
 m 4 18,
 o 5 .mv [c (.t (.nili))]]
def c60_3 : EC := .rg c60_3l false
@[simp] theorem c60_3e : Rg c60_3 c60_3l false := rgE _ _
def c60_4 : EC := .sq c60_3 .rt
@[simp] theorem c60_4e : Sq c60_4 c60_3 .rt := sqE _ _
def c60_5 : EC := .sq c60_2 c60_4
@[simp] theorem c60_5e : Sq c60_5 c60_2 c60_4 := sqE _ _
def c60_6 : EC := .sq c60_1 c60_5
@[simp] theorem c60_6e : Sq c60_6 c60_1 c60_5 := sqE _ _
def c60_7 : EC := .sq c60_0 c60_6
@[simp] theorem c60_7e : Sq c60_7 c60_0 c60_6 := sqE _ _
def c___strings_Builder__WriteString_60 : EC := c60_7
theorem k_60 : ecF Tryd.prog 60 = some (19, c___strings_Builder__WriteString_60, [.tm 4, .tm 5]) := by kernel_rfl

/-- strconv.Itoa -/
@[simp] def c61_0l : List EO := [o 2 .mv [c (.t (.str []))]]
def c61_0 : EC := .rg c61_0l false
@[simp] theorem c61_0e : Rg c61_0 c61_0l false := rgE _ _
@[simp] def c61_1l : List EO := [m 3 0,
 o 4 (.call 96) [t 3],
 m 2 4]
def c61_1 : EC := .rg c61_1l false
@[simp] theorem c61_1e : Rg c61_1 c61_1l false := rgE _ _
def c61_2 : EC := .sq c61_1 .rt
@[simp] theorem c61_2e : Sq c61_2 c61_1 .rt := sqE _ _
def c61_3 : EC := .sq c61_0 c61_2
@[simp] theorem c61_3e : Sq c61_3 c61_0 c61_2 := sqE _ _
def c_strconv_Itoa_61 : EC := c61_3
theorem k_61 : ecF Tryd.prog 61 = some (5, c_strconv_Itoa_61, [.tm 2]) := by kernel_rfl

/-- (*strings.Builder).WriteByte -/
@[simp] def c62_0l : List EO := [o 4 .mv [c (.t (.nili))]]
def c62_0 : EC := .rg c62_0l false
@[simp] theorem c62_0e : Rg c62_0 c62_0l false := rgE _ _
@[simp] def c62_1l : List EO := [m 5 0,
 o 6 (.call 95) [t 5]]
def c62_1 : EC := .rg c62_1l false
@[simp] theorem c62_1e : Rg c62_1 c62_1l false := rgE _ _
@[simp] def c62_2l : List EO := [m 7 0,
 m 8 0,
 o 9 .nilc [t 8],
 o 10 (.faddr 1) [t 9],
 o 11 (.load 1 false) [t 10],
 m 12 1,
 o 13 (.bsl 1) [t 12],
 o 14 (.app 5 1 1) [t 11, t 13],
 o 15 .nilc [t 7],
 o 16 (.faddr 1) [t 15],
 u (.store 1) [t 16, t 14]]
def c62_2 : EC := .rg c62_2l false
@[simp] theorem c62_2e : Rg c62_2 c62_2l false := rgE _ _
@[simp] def c62_3l : List EO := [o 4 .mv [c (.t (.nili))]]
def c62_3 : EC := .rg c62_3l false
@[simp] theorem c62_3e : Rg c62_3 c62_3l false := rgE _ _
def c62_4 : EC := .sq c62_3 .rt
@[simp] theorem c62_4e : Sq c62_4 c62_3 .rt := sqE _ _
def c62_5 : EC := .sq c62_2 c62_4
@[simp] theorem c62_5e : Sq c62_5 c62_2 c62_4 := sqE _ _
def c62_6 : EC := .sq c62_1 c62_5
@[simp] theorem c62_6e : Sq c62_6 c62_1 c62_5 := sqE _ _
def c62_7 : EC := .sq c62_0 c62_6
@[simp] theorem c62_7e : Sq c62_7 c62_0 c62_6 := sqE _ _
def c___strings_Builder__WriteByte_62 : EC := c62_7
theorem k_62 : ecF Tryd.prog 62 = some (17, c___strings_Builder__WriteByte_62, [.tm 4]) := by kernel_rfl

/-- (*strings.Builder).WriteByte, with slices that grow in boxes -/
@[simp] def b62_0l : List EO := [o 4 .mv [c (.t (.nili))]]
def b62_0 : EC := .rg b62_0l false
@[simp] theorem b62_0e : Rg b62_0 b62_0l false := rgE _ _
@[simp] def b62_1l : List EO := [m 5 0,
 o 6 (.call 95) [t 5]]
def b62_1 : EC := .rg b62_1l false
@[simp] theorem b62_1e : Rg b62_1 b62_1l false := rgE _ _
@[simp] def b62_2l : List EO := [m 7 0,
 m 8 0,
 o 9 .nilc [t 8],
 o 10 (.faddr 1) [t 9],
 o 11 (.load 1 false) [t 10],
 m 12 1,
 o 13 (.bsl 1) [t 12],
 o 14 (.appB 5 1 1) [t 11, t 13],
 o 15 .nilc [t 7],
 o 16 (.faddr 1) [t 15],
 u (.store 1) [t 16, t 14]]
def b62_2 : EC := .rg b62_2l false
@[simp] theorem b62_2e : Rg b62_2 b62_2l false := rgE _ _
@[simp] def b62_3l : List EO := [o 4 .mv [c (.t (.nili))]]
def b62_3 : EC := .rg b62_3l false
@[simp] theorem b62_3e : Rg b62_3 b62_3l false := rgE _ _
def b62_4 : EC := .sq b62_3 .rt
@[simp] theorem b62_4e : Sq b62_4 b62_3 .rt := sqE _ _
def b62_5 : EC := .sq b62_2 b62_4
@[simp] theorem b62_5e : Sq b62_5 b62_2 b62_4 := sqE _ _
def b62_6 : EC := .sq b62_1 b62_5
@[simp] theorem b62_6e : Sq b62_6 b62_1 b62_5 := sqE _ _
def b62_7 : EC := .sq b62_0 b62_6
@[simp] theorem b62_7e : Sq b62_7 b62_0 b62_6 := sqE _ _
def b___strings_Builder__WriteByte_62 : EC := b62_7
theorem kb_62 : ecB Tryd.prog 62 = some (17, b___strings_Builder__WriteByte_62, [.tm 4]) := by kernel_rfl

/-- slices.Equal[[]tallystone/compile.Ins,tallystone/compile.Ins] -/
@[simp] def c64_0l : List EO := [o 4 .mv [b false]]
def c64_0 : EC := .rg c64_0l false
@[simp] theorem c64_0e : Rg c64_0 c64_0l false := rgE _ _
@[simp] def c64_1l : List EO := [m 6 0,
 o 7 .lenL [t 6],
 m 8 1,
 o 9 .lenL [t 8],
 o 10 (.bin .neq) [t 7, t 9]]
def c64_1 : EC := .rg c64_1l false
@[simp] theorem c64_1e : Rg c64_1 c64_1l false := rgE _ _
@[simp] def c64_2l : List EO := [o 4 .mv [b false]]
def c64_2 : EC := .rg c64_2l false
@[simp] theorem c64_2e : Rg c64_2 c64_2l false := rgE _ _
def c64_3 : EC := .sq c64_2 .rt
@[simp] theorem c64_3e : Sq c64_3 c64_2 .rt := sqE _ _
def c64_4 : EC := .cd (t 10) c64_3 .skip
@[simp] theorem c64_4e : Cd c64_4 (t 10) c64_3 .skip := cdE _ _ _
def c64_5 : EC := .sq c64_1 c64_4
@[simp] theorem c64_5e : Sq c64_5 c64_1 c64_4 := sqE _ _
@[simp] def c64_6l : List EO := [m 11 0,
 o 12 .lenL [t 11],
 o 13 .mv [i 0]]
def c64_6 : EC := .rg c64_6l false
@[simp] theorem c64_6e : Rg c64_6 c64_6l false := rgE _ _
@[simp] def c64_7l : List EO := [o 14 (.bin .lss) [t 13, t 12]]
def c64_7 : EC := .rg c64_7l false
@[simp] theorem c64_7e : Rg c64_7 c64_7l false := rgE _ _
def c64_8 : EC := .cd (t 14) .skip (.ex 0)
@[simp] theorem c64_8e : Cd c64_8 (t 14) .skip (.ex 0) := cdE _ _ _
@[simp] def c64_9l : List EO := [m 15 13,
 m 5 15]
def c64_9 : EC := .rg c64_9l false
@[simp] theorem c64_9e : Rg c64_9 c64_9l false := rgE _ _
@[simp] def c64_10l : List EO := [m 16 0,
 m 17 5,
 o 18 (.iaS 3) [t 16, t 17],
 o 19 (.load 3 true) [t 18],
 m 20 1,
 m 21 5,
 o 22 (.iaS 3) [t 20, t 21],
 o 23 (.load 3 true) [t 22],
 o 24 (.eqv true true [1, 1, 1]) [t 19, t 23]]
def c64_10 : EC := .rg c64_10l true
@[simp] theorem c64_10e : Rg c64_10 c64_10l true := rgE _ _
@[simp] def c64_11l : List EO := [o 4 .mv [b false]]
def c64_11 : EC := .rg c64_11l false
@[simp] theorem c64_11e : Rg c64_11 c64_11l false := rgE _ _
def c64_12 : EC := .sq c64_11 .rt
@[simp] theorem c64_12e : Sq c64_12 c64_11 .rt := sqE _ _
def c64_13 : EC := .cd (t 24) c64_12 .skip
@[simp] theorem c64_13e : Cd c64_13 (t 24) c64_12 .skip := cdE _ _ _
def c64_14 : EC := .sq c64_10 c64_13
@[simp] theorem c64_14e : Sq c64_14 c64_10 c64_13 := sqE _ _
def c64_15 : EC := .sq c64_9 c64_14
@[simp] theorem c64_15e : Sq c64_15 c64_9 c64_14 := sqE _ _
def c64_16 : EC := .bk 1 c64_15
@[simp] theorem c64_16e : Bk c64_16 1 c64_15 := bkE _ _
@[simp] def c64_17l : List EO := [o 25 (.bin .add) [t 13, i 1],
 m 13 25]
def c64_17 : EC := .rg c64_17l false
@[simp] theorem c64_17e : Rg c64_17 c64_17l false := rgE _ _
def c64_18 : EC := .sq c64_16 c64_17
@[simp] theorem c64_18e : Sq c64_18 c64_16 c64_17 := sqE _ _
def c64_19 : EC := .sq c64_8 c64_18
@[simp] theorem c64_19e : Sq c64_19 c64_8 c64_18 := sqE _ _
def c64_20 : EC := .sq c64_7 c64_19
@[simp] theorem c64_20e : Sq c64_20 c64_7 c64_19 := sqE _ _
def c64_21 : EC := .bk 0 (.lp c64_20)
@[simp] theorem c64_21e : Bk c64_21 0 (.lp c64_20) := bkE _ _
def c64_22 : EC := .sq c64_6 c64_21
@[simp] theorem c64_22e : Sq c64_22 c64_6 c64_21 := sqE _ _
@[simp] def c64_23l : List EO := [o 4 .mv [b true]]
def c64_23 : EC := .rg c64_23l false
@[simp] theorem c64_23e : Rg c64_23 c64_23l false := rgE _ _
def c64_24 : EC := .sq c64_23 .rt
@[simp] theorem c64_24e : Sq c64_24 c64_23 .rt := sqE _ _
def c64_25 : EC := .sq c64_22 c64_24
@[simp] theorem c64_25e : Sq c64_25 c64_22 c64_24 := sqE _ _
def c64_26 : EC := .sq c64_5 c64_25
@[simp] theorem c64_26e : Sq c64_26 c64_5 c64_25 := sqE _ _
def c64_27 : EC := .sq c64_0 c64_26
@[simp] theorem c64_27e : Sq c64_27 c64_0 c64_26 := sqE _ _
def c_compile_Ins__64 : EC := c64_27
theorem k_64 : ecF Tryd.prog 64 = some (26, c_compile_Ins__64, [.tm 4]) := by kernel_rfl

/-- tallystone/tallystoneref34.uses -/
@[simp] def c65_0l : List EO := [o 2 .mv [i 0]]
def c65_0 : EC := .rg c65_0l false
@[simp] theorem c65_0e : Rg c65_0 c65_0l false := rgE _ _
@[simp] def c65_1l : List EO := [m 3 0]
def c65_1 : EC := .rg c65_1l false
@[simp] theorem c65_1e : Rg c65_1 c65_1l false := rgE _ _
@[simp] def c65_2l : List EO := [o 5 (.bin .eql) [t 3, i 3],
 m 4 5]
def c65_2 : EC := .rg c65_2l false
@[simp] theorem c65_2e : Rg c65_2 c65_2l false := rgE _ _
@[simp] def c65_3l : List EO := [o 6 (.bin .eql) [t 3, i 4],
 m 4 6]
def c65_3 : EC := .rg c65_3l false
@[simp] theorem c65_3e : Rg c65_3 c65_3l false := rgE _ _
def c65_4 : EC := .cd (t 4) .skip c65_3
@[simp] theorem c65_4e : Cd c65_4 (t 4) .skip c65_3 := cdE _ _ _
def c65_5 : EC := .sq c65_2 c65_4
@[simp] theorem c65_5e : Sq c65_5 c65_2 c65_4 := sqE _ _
@[simp] def c65_6l : List EO := [o 2 .mv [i 2]]
def c65_6 : EC := .rg c65_6l false
@[simp] theorem c65_6e : Rg c65_6 c65_6l false := rgE _ _
def c65_7 : EC := .sq c65_6 .rt
@[simp] theorem c65_7e : Sq c65_7 c65_6 .rt := sqE _ _
@[simp] def c65_8l : List EO := [o 8 (.bin .eql) [t 3, i 1],
 m 7 8]
def c65_8 : EC := .rg c65_8l false
@[simp] theorem c65_8e : Rg c65_8 c65_8l false := rgE _ _
@[simp] def c65_9l : List EO := [o 9 (.bin .eql) [t 3, i 2],
 m 7 9]
def c65_9 : EC := .rg c65_9l false
@[simp] theorem c65_9e : Rg c65_9 c65_9l false := rgE _ _
@[simp] def c65_10l : List EO := [o 10 (.bin .eql) [t 3, i 9],
 m 7 10]
def c65_10 : EC := .rg c65_10l false
@[simp] theorem c65_10e : Rg c65_10 c65_10l false := rgE _ _
@[simp] def c65_11l : List EO := [o 11 (.bin .eql) [t 3, i 23],
 m 7 11]
def c65_11 : EC := .rg c65_11l false
@[simp] theorem c65_11e : Rg c65_11 c65_11l false := rgE _ _
@[simp] def c65_12l : List EO := [o 12 (.bin .eql) [t 3, i 25],
 m 7 12]
def c65_12 : EC := .rg c65_12l false
@[simp] theorem c65_12e : Rg c65_12 c65_12l false := rgE _ _
@[simp] def c65_13l : List EO := [o 13 (.bin .eql) [t 3, i 26],
 m 7 13]
def c65_13 : EC := .rg c65_13l false
@[simp] theorem c65_13e : Rg c65_13 c65_13l false := rgE _ _
def c65_14 : EC := .cd (t 7) .skip c65_13
@[simp] theorem c65_14e : Cd c65_14 (t 7) .skip c65_13 := cdE _ _ _
def c65_15 : EC := .sq c65_12 c65_14
@[simp] theorem c65_15e : Sq c65_15 c65_12 c65_14 := sqE _ _
def c65_16 : EC := .cd (t 7) .skip c65_15
@[simp] theorem c65_16e : Cd c65_16 (t 7) .skip c65_15 := cdE _ _ _
def c65_17 : EC := .sq c65_11 c65_16
@[simp] theorem c65_17e : Sq c65_17 c65_11 c65_16 := sqE _ _
def c65_18 : EC := .cd (t 7) .skip c65_17
@[simp] theorem c65_18e : Cd c65_18 (t 7) .skip c65_17 := cdE _ _ _
def c65_19 : EC := .sq c65_10 c65_18
@[simp] theorem c65_19e : Sq c65_19 c65_10 c65_18 := sqE _ _
def c65_20 : EC := .cd (t 7) .skip c65_19
@[simp] theorem c65_20e : Cd c65_20 (t 7) .skip c65_19 := cdE _ _ _
def c65_21 : EC := .sq c65_9 c65_20
@[simp] theorem c65_21e : Sq c65_21 c65_9 c65_20 := sqE _ _
def c65_22 : EC := .cd (t 7) .skip c65_21
@[simp] theorem c65_22e : Cd c65_22 (t 7) .skip c65_21 := cdE _ _ _
def c65_23 : EC := .sq c65_8 c65_22
@[simp] theorem c65_23e : Sq c65_23 c65_8 c65_22 := sqE _ _
@[simp] def c65_24l : List EO := [o 2 .mv [i 1]]
def c65_24 : EC := .rg c65_24l false
@[simp] theorem c65_24e : Rg c65_24 c65_24l false := rgE _ _
def c65_25 : EC := .sq c65_24 .rt
@[simp] theorem c65_25e : Sq c65_25 c65_24 .rt := sqE _ _
def c65_26 : EC := .cd (t 7) c65_25 .skip
@[simp] theorem c65_26e : Cd c65_26 (t 7) c65_25 .skip := cdE _ _ _
def c65_27 : EC := .sq c65_23 c65_26
@[simp] theorem c65_27e : Sq c65_27 c65_23 c65_26 := sqE _ _
def c65_28 : EC := .cd (t 4) c65_7 c65_27
@[simp] theorem c65_28e : Cd c65_28 (t 4) c65_7 c65_27 := cdE _ _ _
def c65_29 : EC := .sq c65_5 c65_28
@[simp] theorem c65_29e : Sq c65_29 c65_5 c65_28 := sqE _ _
def c65_30 : EC := .bk 0 c65_29
@[simp] theorem c65_30e : Bk c65_30 0 c65_29 := bkE _ _
def c65_31 : EC := .sq c65_1 c65_30
@[simp] theorem c65_31e : Sq c65_31 c65_1 c65_30 := sqE _ _
@[simp] def c65_32l : List EO := [o 2 .mv [i 0]]
def c65_32 : EC := .rg c65_32l false
@[simp] theorem c65_32e : Rg c65_32 c65_32l false := rgE _ _
def c65_33 : EC := .sq c65_32 .rt
@[simp] theorem c65_33e : Sq c65_33 c65_32 .rt := sqE _ _
def c65_34 : EC := .sq c65_31 c65_33
@[simp] theorem c65_34e : Sq c65_34 c65_31 c65_33 := sqE _ _
def c65_35 : EC := .sq c65_0 c65_34
@[simp] theorem c65_35e : Sq c65_35 c65_0 c65_34 := sqE _ _
def c_tallystoneref34_uses_65 : EC := c65_35
theorem k_65 : ecF Tryd.prog 65 = some (14, c_tallystoneref34_uses_65, [.tm 2]) := by kernel_rfl

/-- tallystone/tallystoneref34.number -/
@[simp] def c66_0l : List EO := [o 2 .mv [c (.t (.str []))]]
def c66_0 : EC := .rg c66_0l false
@[simp] theorem c66_0e : Rg c66_0 c66_0l false := rgE _ _
@[simp] def c66_1l : List EO := [m 5 0,
 o 6 (.bin .lss) [t 5, i 0]]
def c66_1 : EC := .rg c66_1l false
@[simp] theorem c66_1e : Rg c66_1 c66_1l false := rgE _ _
@[simp] def c66_2l : List EO := [m 7 0,
 o 8 (.un .neg) [t 7],
 o 9 (.call 66) [t 8],
 o 10 (.bin .add) [c (.t (.str [45])), t 9],
 m 2 10]
def c66_2 : EC := .rg c66_2l false
@[simp] theorem c66_2e : Rg c66_2 c66_2l false := rgE _ _
def c66_3 : EC := .sq c66_2 .rt
@[simp] theorem c66_3e : Sq c66_3 c66_2 .rt := sqE _ _
def c66_4 : EC := .cd (t 6) c66_3 .skip
@[simp] theorem c66_4e : Cd c66_4 (t 6) c66_3 .skip := cdE _ _ _
def c66_5 : EC := .sq c66_1 c66_4
@[simp] theorem c66_5e : Sq c66_5 c66_1 c66_4 := sqE _ _
@[simp] def c66_6l : List EO := [o 3 .mv [c (.t (.str [48, 49, 50, 51, 52, 53, 54, 55, 56, 57]))]]
def c66_6 : EC := .rg c66_6l false
@[simp] theorem c66_6e : Rg c66_6 c66_6l false := rgE _ _
@[simp] def c66_7l : List EO := [o 4 .mv [c (.t (.str []))]]
def c66_7 : EC := .rg c66_7l false
@[simp] theorem c66_7e : Rg c66_7 c66_7l false := rgE _ _
@[simp] def c66_8l : List EO := [m 11 0,
 o 12 (.bin .gtr) [t 11, i 0],
 m 13 12,
 n 14 13 .mv [t 4],
 n 15 13 (.bin .eql) [t 14, c (.t (.str []))],
 o 16 .pick [t 13, b true, t 15]]
def c66_8 : EC := .rg c66_8l false
@[simp] theorem c66_8e : Rg c66_8 c66_8l false := rgE _ _
def c66_9 : EC := .cd (t 16) .skip (.ex 0)
@[simp] theorem c66_9e : Cd c66_9 (t 16) .skip (.ex 0) := cdE _ _ _
def c66_10 : EC := .sq c66_8 c66_9
@[simp] theorem c66_10e : Sq c66_10 c66_8 c66_9 := sqE _ _
@[simp] def c66_11l : List EO := [m 17 3,
 m 18 0,
 o 19 (.bin .rem) [t 18, i 10],
 m 20 0,
 o 21 (.bin .rem) [t 20, i 10],
 o 22 (.bin .add) [t 21, i 1],
 o 23 (.slS true true) [t 17, t 19, t 22],
 m 24 4,
 o 25 (.bin .add) [t 23, t 24],
 m 4 25]
def c66_11 : EC := .rg c66_11l false
@[simp] theorem c66_11e : Rg c66_11 c66_11l false := rgE _ _
@[simp] def c66_12l : List EO := [m 26 0,
 o 27 (.bin .quo) [t 26, i 10],
 m 0 27]
def c66_12 : EC := .rg c66_12l false
@[simp] theorem c66_12e : Rg c66_12 c66_12l false := rgE _ _
def c66_13 : EC := .sq c66_11 c66_12
@[simp] theorem c66_13e : Sq c66_13 c66_11 c66_12 := sqE _ _
def c66_14 : EC := .bk 1 c66_13
@[simp] theorem c66_14e : Bk c66_14 1 c66_13 := bkE _ _
def c66_15 : EC := .sq c66_10 c66_14
@[simp] theorem c66_15e : Sq c66_15 c66_10 c66_14 := sqE _ _
def c66_16 : EC := .bk 0 (.lp c66_15)
@[simp] theorem c66_16e : Bk c66_16 0 (.lp c66_15) := bkE _ _
@[simp] def c66_17l : List EO := [m 28 4,
 m 2 28]
def c66_17 : EC := .rg c66_17l false
@[simp] theorem c66_17e : Rg c66_17 c66_17l false := rgE _ _
def c66_18 : EC := .sq c66_17 .rt
@[simp] theorem c66_18e : Sq c66_18 c66_17 .rt := sqE _ _
def c66_19 : EC := .sq c66_16 c66_18
@[simp] theorem c66_19e : Sq c66_19 c66_16 c66_18 := sqE _ _
def c66_20 : EC := .sq c66_7 c66_19
@[simp] theorem c66_20e : Sq c66_20 c66_7 c66_19 := sqE _ _
def c66_21 : EC := .sq c66_6 c66_20
@[simp] theorem c66_21e : Sq c66_21 c66_6 c66_20 := sqE _ _
def c66_22 : EC := .sq c66_5 c66_21
@[simp] theorem c66_22e : Sq c66_22 c66_5 c66_21 := sqE _ _
def c66_23 : EC := .sq c66_0 c66_22
@[simp] theorem c66_23e : Sq c66_23 c66_0 c66_22 := sqE _ _
def c_tallystoneref34_number_66 : EC := c66_23
theorem k_66 : ecF Tryd.prog 66 = some (29, c_tallystoneref34_number_66, [.tm 2]) := by kernel_rfl

/-- tallystone/tallystoneref34.Takes -/
@[simp] def c67_0l : List EO := [o 2 .mv [i 0],
 o 3 .mv [i 0]]
def c67_0 : EC := .rg c67_0l false
@[simp] theorem c67_0e : Rg c67_0 c67_0l false := rgE _ _
@[simp] def c67_1l : List EO := [m 5 0,
 o 6 (.bin .geq) [t 5, i 1],
 m 7 6,
 y 8 7 .mv [t 0],
 y 9 7 (.bin .leq) [t 8, i 4],
 o 10 .pick [t 7, t 9, b false],
 m 4 10]
def c67_1 : EC := .rg c67_1l false
@[simp] theorem c67_1e : Rg c67_1 c67_1l false := rgE _ _
@[simp] def c67_2l : List EO := [o 2 .mv [i 0],
 o 3 .mv [i 1]]
def c67_2 : EC := .rg c67_2l false
@[simp] theorem c67_2e : Rg c67_2 c67_2l false := rgE _ _
def c67_3 : EC := .sq c67_2 .rt
@[simp] theorem c67_3e : Sq c67_3 c67_2 .rt := sqE _ _
@[simp] def c67_4l : List EO := [m 12 0,
 o 13 (.bin .geq) [t 12, i 5],
 m 14 13,
 y 15 14 .mv [t 0],
 y 16 14 (.bin .leq) [t 15, i 9],
 o 17 .pick [t 14, t 16, b false],
 m 11 17]
def c67_4 : EC := .rg c67_4l false
@[simp] theorem c67_4e : Rg c67_4 c67_4l false := rgE _ _
@[simp] def c67_5l : List EO := [o 2 .mv [i 1],
 o 3 .mv [i 1]]
def c67_5 : EC := .rg c67_5l false
@[simp] theorem c67_5e : Rg c67_5 c67_5l false := rgE _ _
def c67_6 : EC := .sq c67_5 .rt
@[simp] theorem c67_6e : Sq c67_6 c67_5 .rt := sqE _ _
@[simp] def c67_7l : List EO := [m 19 0,
 o 20 (.bin .geq) [t 19, i 10],
 m 21 20,
 y 22 21 .mv [t 0],
 y 23 21 (.bin .leq) [t 22, i 22],
 o 24 .pick [t 21, t 23, b false],
 m 18 24]
def c67_7 : EC := .rg c67_7l false
@[simp] theorem c67_7e : Rg c67_7 c67_7l false := rgE _ _
@[simp] def c67_8l : List EO := [o 2 .mv [i 2],
 o 3 .mv [i 1]]
def c67_8 : EC := .rg c67_8l false
@[simp] theorem c67_8e : Rg c67_8 c67_8l false := rgE _ _
def c67_9 : EC := .sq c67_8 .rt
@[simp] theorem c67_9e : Sq c67_9 c67_8 .rt := sqE _ _
@[simp] def c67_10l : List EO := [m 26 0,
 o 27 (.bin .geq) [t 26, i 23],
 m 28 27,
 y 29 28 .mv [t 0],
 y 30 28 (.bin .leq) [t 29, i 25],
 o 31 .pick [t 28, t 30, b false],
 m 25 31]
def c67_10 : EC := .rg c67_10l false
@[simp] theorem c67_10e : Rg c67_10 c67_10l false := rgE _ _
@[simp] def c67_11l : List EO := [o 2 .mv [i 1],
 o 3 .mv [i 0]]
def c67_11 : EC := .rg c67_11l false
@[simp] theorem c67_11e : Rg c67_11 c67_11l false := rgE _ _
def c67_12 : EC := .sq c67_11 .rt
@[simp] theorem c67_12e : Sq c67_12 c67_11 .rt := sqE _ _
def c67_13 : EC := .cd (t 25) c67_12 .skip
@[simp] theorem c67_13e : Cd c67_13 (t 25) c67_12 .skip := cdE _ _ _
def c67_14 : EC := .sq c67_10 c67_13
@[simp] theorem c67_14e : Sq c67_14 c67_10 c67_13 := sqE _ _
def c67_15 : EC := .cd (t 18) c67_9 c67_14
@[simp] theorem c67_15e : Cd c67_15 (t 18) c67_9 c67_14 := cdE _ _ _
def c67_16 : EC := .sq c67_7 c67_15
@[simp] theorem c67_16e : Sq c67_16 c67_7 c67_15 := sqE _ _
def c67_17 : EC := .cd (t 11) c67_6 c67_16
@[simp] theorem c67_17e : Cd c67_17 (t 11) c67_6 c67_16 := cdE _ _ _
def c67_18 : EC := .sq c67_4 c67_17
@[simp] theorem c67_18e : Sq c67_18 c67_4 c67_17 := sqE _ _
def c67_19 : EC := .cd (t 4) c67_3 c67_18
@[simp] theorem c67_19e : Cd c67_19 (t 4) c67_3 c67_18 := cdE _ _ _
def c67_20 : EC := .sq c67_1 c67_19
@[simp] theorem c67_20e : Sq c67_20 c67_1 c67_19 := sqE _ _
def c67_21 : EC := .bk 0 c67_20
@[simp] theorem c67_21e : Bk c67_21 0 c67_20 := bkE _ _
@[simp] def c67_22l : List EO := [o 2 .mv [i 0],
 o 3 .mv [i 0]]
def c67_22 : EC := .rg c67_22l false
@[simp] theorem c67_22e : Rg c67_22 c67_22l false := rgE _ _
def c67_23 : EC := .sq c67_22 .rt
@[simp] theorem c67_23e : Sq c67_23 c67_22 .rt := sqE _ _
def c67_24 : EC := .sq c67_21 c67_23
@[simp] theorem c67_24e : Sq c67_24 c67_21 c67_23 := sqE _ _
def c67_25 : EC := .sq c67_0 c67_24
@[simp] theorem c67_25e : Sq c67_25 c67_0 c67_24 := sqE _ _
def c_tallystoneref34_Takes_67 : EC := c67_25
theorem k_67 : ecF Tryd.prog 67 = some (32, c_tallystoneref34_Takes_67, [.tm 2, .tm 3]) := by kernel_rfl

/-- tallystone/chart.Valid -/
@[simp] def c68_0l : List EO := [o 4 .mv [b false]]
def c68_0 : EC := .rg c68_0l false
@[simp] theorem c68_0e : Rg c68_0 c68_0l false := rgE _ _
@[simp] def c68_1l : List EO := [m 7 0,
 o 8 .lenL [t 7],
 o 9 .mv [i 0]]
def c68_1 : EC := .rg c68_1l false
@[simp] theorem c68_1e : Rg c68_1 c68_1l false := rgE _ _
@[simp] def c68_2l : List EO := [o 10 (.bin .lss) [t 9, t 8]]
def c68_2 : EC := .rg c68_2l false
@[simp] theorem c68_2e : Rg c68_2 c68_2l false := rgE _ _
def c68_3 : EC := .cd (t 10) .skip (.ex 0)
@[simp] theorem c68_3e : Cd c68_3 (t 10) .skip (.ex 0) := cdE _ _ _
@[simp] def c68_4l : List EO := [m 11 9,
 o 12 (.iaS 4) [t 7, t 9],
 o 13 (.load 4 true) [t 12],
 o 6 (.alloc [.t (.int .i64 0), .t (.int .i64 0), .t (.int .i64 0), .t (.int .i64 0)]) [],
 m 5 11,
 u (.store 4) [t 6, t 13]]
def c68_4 : EC := .rg c68_4l false
@[simp] theorem c68_4e : Rg c68_4 c68_4l false := rgE _ _
@[simp] def c68_5l : List EO := [m 14 5,
 o 15 (.bin .gtr) [t 14, i 0],
 m 16 15,
 y 17 16 .mv [t 0],
 y 18 16 .mv [t 5],
 y 19 16 (.bin .sub) [t 18, i 1],
 y 20 16 (.iaS 4) [t 17, t 19],
 y 21 16 (.faddr 0) [t 20],
 y 22 16 (.load 1 false) [t 21],
 y 23 16 (.faddr 0) [t 6],
 y 24 16 (.load 1 false) [t 23],
 y 25 16 (.bin .geq) [t 22, t 24],
 o 26 .pick [t 16, t 25, b false],
 m 27 26,
 n 28 27 .mv [t 0],
 n 29 27 (.load 4 true) [t 6],
 n 30 27 .mv [t 1],
 n 31 27 (.call 97) [t 28, t 29, t 30],
 n 32 27 (.un .not) [t 31],
 o 33 .pick [t 27, b true, t 32]]
def c68_5 : EC := .rg c68_5l true
@[simp] theorem c68_5e : Rg c68_5 c68_5l true := rgE _ _
@[simp] def c68_6l : List EO := [o 4 .mv [b false]]
def c68_6 : EC := .rg c68_6l false
@[simp] theorem c68_6e : Rg c68_6 c68_6l false := rgE _ _
def c68_7 : EC := .sq c68_6 .rt
@[simp] theorem c68_7e : Sq c68_7 c68_6 .rt := sqE _ _
def c68_8 : EC := .cd (t 33) c68_7 .skip
@[simp] theorem c68_8e : Cd c68_8 (t 33) c68_7 .skip := cdE _ _ _
def c68_9 : EC := .sq c68_5 c68_8
@[simp] theorem c68_9e : Sq c68_9 c68_5 c68_8 := sqE _ _
def c68_10 : EC := .sq c68_4 c68_9
@[simp] theorem c68_10e : Sq c68_10 c68_4 c68_9 := sqE _ _
def c68_11 : EC := .bk 1 c68_10
@[simp] theorem c68_11e : Bk c68_11 1 c68_10 := bkE _ _
@[simp] def c68_12l : List EO := [o 34 (.bin .add) [t 9, i 1],
 m 9 34]
def c68_12 : EC := .rg c68_12l false
@[simp] theorem c68_12e : Rg c68_12 c68_12l false := rgE _ _
def c68_13 : EC := .sq c68_11 c68_12
@[simp] theorem c68_13e : Sq c68_13 c68_11 c68_12 := sqE _ _
def c68_14 : EC := .sq c68_3 c68_13
@[simp] theorem c68_14e : Sq c68_14 c68_3 c68_13 := sqE _ _
def c68_15 : EC := .sq c68_2 c68_14
@[simp] theorem c68_15e : Sq c68_15 c68_2 c68_14 := sqE _ _
def c68_16 : EC := .bk 0 (.lp c68_15)
@[simp] theorem c68_16e : Bk c68_16 0 (.lp c68_15) := bkE _ _
def c68_17 : EC := .sq c68_1 c68_16
@[simp] theorem c68_17e : Sq c68_17 c68_1 c68_16 := sqE _ _
@[simp] def c68_18l : List EO := [m 35 0,
 o 36 .lenL [t 35],
 o 37 (.bin .leq) [t 36, i 200],
 m 4 37]
def c68_18 : EC := .rg c68_18l false
@[simp] theorem c68_18e : Rg c68_18 c68_18l false := rgE _ _
def c68_19 : EC := .sq c68_18 .rt
@[simp] theorem c68_19e : Sq c68_19 c68_18 .rt := sqE _ _
def c68_20 : EC := .sq c68_17 c68_19
@[simp] theorem c68_20e : Sq c68_20 c68_17 c68_19 := sqE _ _
def c68_21 : EC := .sq c68_0 c68_20
@[simp] theorem c68_21e : Sq c68_21 c68_0 c68_20 := sqE _ _
def c_chart_Valid_68 : EC := c68_21
theorem k_68 : ecF Tryd.prog 68 = some (38, c_chart_Valid_68, [.tm 4]) := by kernel_rfl

/-- tallystone/tallystoneref08.Valid -/
@[simp] def c70_0l : List EO := [o 4 .mv [b false]]
def c70_0 : EC := .rg c70_0l false
@[simp] theorem c70_0e : Rg c70_0 c70_0l false := rgE _ _
@[simp] def c70_1l : List EO := [m 6 0,
 o 7 .lenL [t 6],
 o 8 (.bin .gtr) [t 7, i 200]]
def c70_1 : EC := .rg c70_1l false
@[simp] theorem c70_1e : Rg c70_1 c70_1l false := rgE _ _
@[simp] def c70_2l : List EO := [o 4 .mv [b false]]
def c70_2 : EC := .rg c70_2l false
@[simp] theorem c70_2e : Rg c70_2 c70_2l false := rgE _ _
def c70_3 : EC := .sq c70_2 .rt
@[simp] theorem c70_3e : Sq c70_3 c70_2 .rt := sqE _ _
def c70_4 : EC := .cd (t 8) c70_3 .skip
@[simp] theorem c70_4e : Cd c70_4 (t 8) c70_3 .skip := cdE _ _ _
def c70_5 : EC := .sq c70_1 c70_4
@[simp] theorem c70_5e : Sq c70_5 c70_1 c70_4 := sqE _ _
@[simp] def c70_6l : List EO := [o 5 .mv [i 0]]
def c70_6 : EC := .rg c70_6l false
@[simp] theorem c70_6e : Rg c70_6 c70_6l false := rgE _ _
@[simp] def c70_7l : List EO := [m 9 5,
 m 10 0,
 o 11 .lenL [t 10],
 o 12 (.bin .lss) [t 9, t 11]]
def c70_7 : EC := .rg c70_7l false
@[simp] theorem c70_7e : Rg c70_7 c70_7l false := rgE _ _
def c70_8 : EC := .cd (t 12) .skip (.ex 0)
@[simp] theorem c70_8e : Cd c70_8 (t 12) .skip (.ex 0) := cdE _ _ _
def c70_9 : EC := .sq c70_7 c70_8
@[simp] theorem c70_9e : Sq c70_9 c70_7 c70_8 := sqE _ _
@[simp] def c70_10l : List EO := [m 15 0,
 m 16 0,
 m 17 5,
 o 18 (.iaS 4) [t 16, t 17],
 o 19 (.load 4 true) [t 18],
 m 20 1,
 o 21 (.call 101) [t 15, t 19, t 20],
 o 22 (.un .not) [t 21],
 m 23 22,
 n 24 23 .mv [t 5],
 n 25 23 (.bin .gtr) [t 24, i 0],
 n 26 23 .mv [t 25],
 y 27 26 .mv [t 0],
 y 28 26 .mv [t 5],
 y 29 26 (.iaS 4) [t 27, t 28],
 y 30 26 (.faddr 0) [t 29],
 y 31 26 (.load 1 false) [t 30],
 y 32 26 .mv [t 0],
 y 33 26 .mv [t 5],
 y 34 26 (.bin .sub) [t 33, i 1],
 y 35 26 (.iaS 4) [t 32, t 34],
 y 36 26 (.faddr 0) [t 35],
 y 37 26 (.load 1 false) [t 36],
 y 38 26 (.bin .leq) [t 31, t 37],
 n 39 23 .pick [t 26, t 38, b false],
 o 40 .pick [t 23, b true, t 39],
 m 41 40,
 n 42 41 .mv [t 0],
 n 43 41 .mv [t 0],
 n 44 41 .mv [t 5],
 n 45 41 (.iaS 4) [t 43, t 44],
 n 46 41 (.faddr 0) [t 45],
 n 47 41 (.load 1 false) [t 46],
 n 48 41 (.call 102) [t 42, t 47],
 n 49 41 .lenL [t 48],
 n 50 41 .mv [t 0],
 n 51 41 .lenL [t 50],
 n 52 41 (.bin .gtr) [t 49, t 51],
 o 53 .pick [t 41, b true, t 52]]
def c70_10 : EC := .rg c70_10l true
@[simp] theorem c70_10e : Rg c70_10 c70_10l true := rgE _ _
@[simp] def c70_11l : List EO := [o 4 .mv [b false]]
def c70_11 : EC := .rg c70_11l false
@[simp] theorem c70_11e : Rg c70_11 c70_11l false := rgE _ _
def c70_12 : EC := .sq c70_11 .rt
@[simp] theorem c70_12e : Sq c70_12 c70_11 .rt := sqE _ _
def c70_13 : EC := .cd (t 53) c70_12 .skip
@[simp] theorem c70_13e : Cd c70_13 (t 53) c70_12 .skip := cdE _ _ _
def c70_14 : EC := .sq c70_10 c70_13
@[simp] theorem c70_14e : Sq c70_14 c70_10 c70_13 := sqE _ _
def c70_15 : EC := .bk 1 c70_14
@[simp] theorem c70_15e : Bk c70_15 1 c70_14 := bkE _ _
@[simp] def c70_16l : List EO := [m 13 5,
 o 14 (.bin .add) [t 13, i 1],
 m 5 14]
def c70_16 : EC := .rg c70_16l false
@[simp] theorem c70_16e : Rg c70_16 c70_16l false := rgE _ _
def c70_17 : EC := .sq c70_15 c70_16
@[simp] theorem c70_17e : Sq c70_17 c70_15 c70_16 := sqE _ _
def c70_18 : EC := .sq c70_9 c70_17
@[simp] theorem c70_18e : Sq c70_18 c70_9 c70_17 := sqE _ _
def c70_19 : EC := .bk 0 (.lp c70_18)
@[simp] theorem c70_19e : Bk c70_19 0 (.lp c70_18) := bkE _ _
def c70_20 : EC := .sq c70_6 c70_19
@[simp] theorem c70_20e : Sq c70_20 c70_6 c70_19 := sqE _ _
@[simp] def c70_21l : List EO := [o 4 .mv [b true]]
def c70_21 : EC := .rg c70_21l false
@[simp] theorem c70_21e : Rg c70_21 c70_21l false := rgE _ _
def c70_22 : EC := .sq c70_21 .rt
@[simp] theorem c70_22e : Sq c70_22 c70_21 .rt := sqE _ _
def c70_23 : EC := .sq c70_20 c70_22
@[simp] theorem c70_23e : Sq c70_23 c70_20 c70_22 := sqE _ _
def c70_24 : EC := .sq c70_5 c70_23
@[simp] theorem c70_24e : Sq c70_24 c70_5 c70_23 := sqE _ _
def c70_25 : EC := .sq c70_0 c70_24
@[simp] theorem c70_25e : Sq c70_25 c70_0 c70_24 := sqE _ _
def c_tallystoneref08_Valid_70 : EC := c70_25
theorem k_70 : ecF Tryd.prog 70 = some (54, c_tallystoneref08_Valid_70, [.tm 4]) := by kernel_rfl

/-- tallystone/tallystoneref33.rule -/
@[simp] def c71_0l : List EO := [o 2 .box [t 0],
 o 4 .mv [i 0]]
def c71_0 : EC := .rg c71_0l false
@[simp] theorem c71_0e : Rg c71_0 c71_0l false := rgE _ _
@[simp] def c71_1l : List EO := [o 5 .mv [c (.snil)]]
def c71_1 : EC := .rg c71_1l false
@[simp] theorem c71_1e : Rg c71_1 c71_1l false := rgE _ _
@[simp] def c71_2l : List EO := [o 6 .mv [i 0]]
def c71_2 : EC := .rg c71_2l false
@[simp] theorem c71_2e : Rg c71_2 c71_2l false := rgE _ _
@[simp] def c71_3l : List EO := [m 10 6,
 o 11 (.faddr 2) [t 2],
 o 12 (.load 1 false) [t 11],
 o 13 .lenL [t 12],
 o 14 (.bin .lss) [t 10, t 13]]
def c71_3 : EC := .rg c71_3l false
@[simp] theorem c71_3e : Rg c71_3 c71_3l false := rgE _ _
def c71_4 : EC := .cd (t 14) .skip (.ex 0)
@[simp] theorem c71_4e : Cd c71_4 (t 14) .skip (.ex 0) := cdE _ _ _
def c71_5 : EC := .sq c71_3 c71_4
@[simp] theorem c71_5e : Sq c71_5 c71_3 c71_4 := sqE _ _
@[simp] def c71_6l : List EO := [o 17 (.faddr 2) [t 2],
 o 18 (.load 1 false) [t 17],
 m 19 6,
 o 20 (.iaS 9) [t 18, t 19],
 o 21 (.load 9 true) [t 20],
 o 7 (.alloc [.t (.int .i64 0), .t (.int .i64 0), .t (.str []), .t (.int .i64 0), .t (.int .i64 0), .t (.int .i64 0), .t (.int .i64 0), .t (.str []), .snil]) [],
 u (.store 9) [t 7, t 21]]
def c71_6 : EC := .rg c71_6l false
@[simp] theorem c71_6e : Rg c71_6 c71_6l false := rgE _ _
@[simp] def c71_7l : List EO := [o 23 (.faddr 3) [t 7],
 o 24 (.load 6 true) [t 23],
 m 25 5,
 o 26 (.faddr 1) [t 2],
 o 27 (.load 1 false) [t 26],
 o 28 (.call 54) [t 24, t 25, t 27],
 m 22 28,
 o 29 (.ext 0) [t 22],
 o 30 (.ext 1) [t 22],
 m 8 29,
 m 9 30]
def c71_7 : EC := .rg c71_7l false
@[simp] theorem c71_7e : Rg c71_7 c71_7l false := rgE _ _
@[simp] def c71_8l : List EO := [m 32 9,
 o 33 (.bin .neq) [t 32, i 0],
 m 31 33]
def c71_8 : EC := .rg c71_8l false
@[simp] theorem c71_8e : Rg c71_8 c71_8l false := rgE _ _
@[simp] def c71_9l : List EO := [m 34 9,
 m 4 34]
def c71_9 : EC := .rg c71_9l false
@[simp] theorem c71_9e : Rg c71_9 c71_9l false := rgE _ _
def c71_10 : EC := .sq c71_9 .rt
@[simp] theorem c71_10e : Sq c71_10 c71_9 .rt := sqE _ _
@[simp] def c71_11l : List EO := [m 36 8,
 o 37 (.bin .eql) [t 36, i 2],
 o 38 (.faddr 0) [t 7],
 o 39 (.load 1 false) [t 38],
 o 40 (.bin .eql) [t 39, i 2],
 o 41 (.eqv true false [0]) [t 37, t 40],
 m 35 41]
def c71_11 : EC := .rg c71_11l false
@[simp] theorem c71_11e : Rg c71_11 c71_11l false := rgE _ _
@[simp] def c71_12l : List EO := [o 4 .mv [i 16]]
def c71_12 : EC := .rg c71_12l false
@[simp] theorem c71_12e : Rg c71_12 c71_12l false := rgE _ _
def c71_13 : EC := .sq c71_12 .rt
@[simp] theorem c71_13e : Sq c71_13 c71_12 .rt := sqE _ _
@[simp] def c71_14l : List EO := [o 43 (.faddr 0) [t 7],
 o 44 (.load 1 false) [t 43],
 o 45 (.bin .eql) [t 44, i 1],
 m 46 45,
 y 47 46 .mv [t 5],
 y 48 46 (.faddr 2) [t 7],
 y 49 46 (.load 1 false) [t 48],
 y 50 46 (.call 37) [t 47, t 49],
 o 51 .pick [t 46, t 50, b false],
 m 42 51]
def c71_14 : EC := .rg c71_14l false
@[simp] theorem c71_14e : Rg c71_14 c71_14l false := rgE _ _
@[simp] def c71_15l : List EO := [o 4 .mv [i 9]]
def c71_15 : EC := .rg c71_15l false
@[simp] theorem c71_15e : Rg c71_15 c71_15l false := rgE _ _
def c71_16 : EC := .sq c71_15 .rt
@[simp] theorem c71_16e : Sq c71_16 c71_15 .rt := sqE _ _
@[simp] def c71_17l : List EO := [o 53 (.faddr 0) [t 7],
 o 54 (.load 1 false) [t 53],
 o 55 (.bin .eql) [t 54, i 3],
 m 56 55,
 y 57 56 .mv [t 1],
 y 58 56 (.faddr 1) [t 7],
 y 59 56 (.load 1 false) [t 58],
 y 60 56 (.call 103) [t 57, t 59],
 y 61 56 (.un .not) [t 60],
 o 62 .pick [t 56, t 61, b false],
 m 52 62]
def c71_17 : EC := .rg c71_17l false
@[simp] theorem c71_17e : Rg c71_17 c71_17l false := rgE _ _
@[simp] def c71_18l : List EO := [o 4 .mv [i 8]]
def c71_18 : EC := .rg c71_18l false
@[simp] theorem c71_18e : Rg c71_18 c71_18l false := rgE _ _
def c71_19 : EC := .sq c71_18 .rt
@[simp] theorem c71_19e : Sq c71_19 c71_18 .rt := sqE _ _
def c71_20 : EC := .cd (t 52) c71_19 .skip
@[simp] theorem c71_20e : Cd c71_20 (t 52) c71_19 .skip := cdE _ _ _
def c71_21 : EC := .sq c71_17 c71_20
@[simp] theorem c71_21e : Sq c71_21 c71_17 c71_20 := sqE _ _
def c71_22 : EC := .cd (t 42) c71_16 c71_21
@[simp] theorem c71_22e : Cd c71_22 (t 42) c71_16 c71_21 := cdE _ _ _
def c71_23 : EC := .sq c71_14 c71_22
@[simp] theorem c71_23e : Sq c71_23 c71_14 c71_22 := sqE _ _
def c71_24 : EC := .cd (t 35) c71_13 c71_23
@[simp] theorem c71_24e : Cd c71_24 (t 35) c71_13 c71_23 := cdE _ _ _
def c71_25 : EC := .sq c71_11 c71_24
@[simp] theorem c71_25e : Sq c71_25 c71_11 c71_24 := sqE _ _
def c71_26 : EC := .cd (t 31) c71_10 c71_25
@[simp] theorem c71_26e : Cd c71_26 (t 31) c71_10 c71_25 := cdE _ _ _
def c71_27 : EC := .sq c71_8 c71_26
@[simp] theorem c71_27e : Sq c71_27 c71_8 c71_26 := sqE _ _
def c71_28 : EC := .bk 2 c71_27
@[simp] theorem c71_28e : Bk c71_28 2 c71_27 := bkE _ _
@[simp] def c71_29l : List EO := [o 63 (.faddr 0) [t 7],
 o 64 (.load 1 false) [t 63],
 o 65 (.bin .eql) [t 64, i 1]]
def c71_29 : EC := .rg c71_29l false
@[simp] theorem c71_29e : Rg c71_29 c71_29l false := rgE _ _
@[simp] def c71_30l : List EO := [m 66 5,
 o 67 (.faddr 2) [t 7],
 o 68 (.load 1 false) [t 67],
 o 69 (.bsl 1) [t 68],
 o 70 (.app 9 1 16) [t 66, t 69],
 m 5 70]
def c71_30 : EC := .rg c71_30l false
@[simp] theorem c71_30e : Rg c71_30 c71_30l false := rgE _ _
def c71_31 : EC := .cd (t 65) c71_30 .skip
@[simp] theorem c71_31e : Cd c71_31 (t 65) c71_30 .skip := cdE _ _ _
def c71_32 : EC := .sq c71_29 c71_31
@[simp] theorem c71_32e : Sq c71_32 c71_29 c71_31 := sqE _ _
def c71_33 : EC := .sq c71_28 c71_32
@[simp] theorem c71_33e : Sq c71_33 c71_28 c71_32 := sqE _ _
def c71_34 : EC := .sq c71_7 c71_33
@[simp] theorem c71_34e : Sq c71_34 c71_7 c71_33 := sqE _ _
def c71_35 : EC := .sq c71_6 c71_34
@[simp] theorem c71_35e : Sq c71_35 c71_6 c71_34 := sqE _ _
def c71_36 : EC := .bk 1 c71_35
@[simp] theorem c71_36e : Bk c71_36 1 c71_35 := bkE _ _
@[simp] def c71_37l : List EO := [m 15 6,
 o 16 (.bin .add) [t 15, i 1],
 m 6 16]
def c71_37 : EC := .rg c71_37l false
@[simp] theorem c71_37e : Rg c71_37 c71_37l false := rgE _ _
def c71_38 : EC := .sq c71_36 c71_37
@[simp] theorem c71_38e : Sq c71_38 c71_36 c71_37 := sqE _ _
def c71_39 : EC := .sq c71_5 c71_38
@[simp] theorem c71_39e : Sq c71_39 c71_5 c71_38 := sqE _ _
def c71_40 : EC := .bk 0 (.lp c71_39)
@[simp] theorem c71_40e : Bk c71_40 0 (.lp c71_39) := bkE _ _
def c71_41 : EC := .sq c71_2 c71_40
@[simp] theorem c71_41e : Sq c71_41 c71_2 c71_40 := sqE _ _
@[simp] def c71_42l : List EO := [m 71 1,
 o 72 (.faddr 3) [t 2],
 o 73 (.load 1 false) [t 72],
 o 74 (.call 103) [t 71, t 73],
 o 75 (.un .not) [t 74]]
def c71_42 : EC := .rg c71_42l false
@[simp] theorem c71_42e : Rg c71_42 c71_42l false := rgE _ _
@[simp] def c71_43l : List EO := [o 4 .mv [i 8]]
def c71_43 : EC := .rg c71_43l false
@[simp] theorem c71_43e : Rg c71_43 c71_43l false := rgE _ _
def c71_44 : EC := .sq c71_43 .rt
@[simp] theorem c71_44e : Sq c71_44 c71_43 .rt := sqE _ _
def c71_45 : EC := .cd (t 75) c71_44 .skip
@[simp] theorem c71_45e : Cd c71_45 (t 75) c71_44 .skip := cdE _ _ _
def c71_46 : EC := .sq c71_42 c71_45
@[simp] theorem c71_46e : Sq c71_46 c71_42 c71_45 := sqE _ _
@[simp] def c71_47l : List EO := [o 4 .mv [i 0]]
def c71_47 : EC := .rg c71_47l false
@[simp] theorem c71_47e : Rg c71_47 c71_47l false := rgE _ _
def c71_48 : EC := .sq c71_47 .rt
@[simp] theorem c71_48e : Sq c71_48 c71_47 .rt := sqE _ _
def c71_49 : EC := .sq c71_46 c71_48
@[simp] theorem c71_49e : Sq c71_49 c71_46 c71_48 := sqE _ _
def c71_50 : EC := .sq c71_41 c71_49
@[simp] theorem c71_50e : Sq c71_50 c71_41 c71_49 := sqE _ _
def c71_51 : EC := .sq c71_1 c71_50
@[simp] theorem c71_51e : Sq c71_51 c71_1 c71_50 := sqE _ _
def c71_52 : EC := .sq c71_0 c71_51
@[simp] theorem c71_52e : Sq c71_52 c71_0 c71_51 := sqE _ _
def c_tallystoneref33_rule_71 : EC := c71_52
theorem k_71 : ecF Tryd.prog 71 = some (76, c_tallystoneref33_rule_71, [.tm 4]) := by kernel_rfl

/-- tallystone/tallystoneref33.rule, with slices that grow in boxes -/
@[simp] def b71_0l : List EO := [o 2 .box [t 0],
 o 4 .mv [i 0]]
def b71_0 : EC := .rg b71_0l false
@[simp] theorem b71_0e : Rg b71_0 b71_0l false := rgE _ _
@[simp] def b71_1l : List EO := [o 5 .mv [c (.snil)]]
def b71_1 : EC := .rg b71_1l false
@[simp] theorem b71_1e : Rg b71_1 b71_1l false := rgE _ _
@[simp] def b71_2l : List EO := [o 6 .mv [i 0]]
def b71_2 : EC := .rg b71_2l false
@[simp] theorem b71_2e : Rg b71_2 b71_2l false := rgE _ _
@[simp] def b71_3l : List EO := [m 10 6,
 o 11 (.faddr 2) [t 2],
 o 12 (.load 1 false) [t 11],
 o 13 .lenL [t 12],
 o 14 (.bin .lss) [t 10, t 13]]
def b71_3 : EC := .rg b71_3l false
@[simp] theorem b71_3e : Rg b71_3 b71_3l false := rgE _ _
def b71_4 : EC := .cd (t 14) .skip (.ex 0)
@[simp] theorem b71_4e : Cd b71_4 (t 14) .skip (.ex 0) := cdE _ _ _
def b71_5 : EC := .sq b71_3 b71_4
@[simp] theorem b71_5e : Sq b71_5 b71_3 b71_4 := sqE _ _
@[simp] def b71_6l : List EO := [o 17 (.faddr 2) [t 2],
 o 18 (.load 1 false) [t 17],
 m 19 6,
 o 20 (.iaS 9) [t 18, t 19],
 o 21 (.load 9 true) [t 20],
 o 7 (.alloc [.t (.int .i64 0), .t (.int .i64 0), .t (.str []), .t (.int .i64 0), .t (.int .i64 0), .t (.int .i64 0), .t (.int .i64 0), .t (.str []), .snil]) [],
 u (.store 9) [t 7, t 21]]
def b71_6 : EC := .rg b71_6l false
@[simp] theorem b71_6e : Rg b71_6 b71_6l false := rgE _ _
@[simp] def b71_7l : List EO := [o 23 (.faddr 3) [t 7],
 o 24 (.load 6 true) [t 23],
 m 25 5,
 o 26 (.faddr 1) [t 2],
 o 27 (.load 1 false) [t 26],
 o 28 (.call 54) [t 24, t 25, t 27],
 m 22 28,
 o 29 (.ext 0) [t 22],
 o 30 (.ext 1) [t 22],
 m 8 29,
 m 9 30]
def b71_7 : EC := .rg b71_7l false
@[simp] theorem b71_7e : Rg b71_7 b71_7l false := rgE _ _
@[simp] def b71_8l : List EO := [m 32 9,
 o 33 (.bin .neq) [t 32, i 0],
 m 31 33]
def b71_8 : EC := .rg b71_8l false
@[simp] theorem b71_8e : Rg b71_8 b71_8l false := rgE _ _
@[simp] def b71_9l : List EO := [m 34 9,
 m 4 34]
def b71_9 : EC := .rg b71_9l false
@[simp] theorem b71_9e : Rg b71_9 b71_9l false := rgE _ _
def b71_10 : EC := .sq b71_9 .rt
@[simp] theorem b71_10e : Sq b71_10 b71_9 .rt := sqE _ _
@[simp] def b71_11l : List EO := [m 36 8,
 o 37 (.bin .eql) [t 36, i 2],
 o 38 (.faddr 0) [t 7],
 o 39 (.load 1 false) [t 38],
 o 40 (.bin .eql) [t 39, i 2],
 o 41 (.eqv true false [0]) [t 37, t 40],
 m 35 41]
def b71_11 : EC := .rg b71_11l false
@[simp] theorem b71_11e : Rg b71_11 b71_11l false := rgE _ _
@[simp] def b71_12l : List EO := [o 4 .mv [i 16]]
def b71_12 : EC := .rg b71_12l false
@[simp] theorem b71_12e : Rg b71_12 b71_12l false := rgE _ _
def b71_13 : EC := .sq b71_12 .rt
@[simp] theorem b71_13e : Sq b71_13 b71_12 .rt := sqE _ _
@[simp] def b71_14l : List EO := [o 43 (.faddr 0) [t 7],
 o 44 (.load 1 false) [t 43],
 o 45 (.bin .eql) [t 44, i 1],
 m 46 45,
 y 47 46 .mv [t 5],
 y 48 46 (.faddr 2) [t 7],
 y 49 46 (.load 1 false) [t 48],
 y 50 46 (.call 37) [t 47, t 49],
 o 51 .pick [t 46, t 50, b false],
 m 42 51]
def b71_14 : EC := .rg b71_14l false
@[simp] theorem b71_14e : Rg b71_14 b71_14l false := rgE _ _
@[simp] def b71_15l : List EO := [o 4 .mv [i 9]]
def b71_15 : EC := .rg b71_15l false
@[simp] theorem b71_15e : Rg b71_15 b71_15l false := rgE _ _
def b71_16 : EC := .sq b71_15 .rt
@[simp] theorem b71_16e : Sq b71_16 b71_15 .rt := sqE _ _
@[simp] def b71_17l : List EO := [o 53 (.faddr 0) [t 7],
 o 54 (.load 1 false) [t 53],
 o 55 (.bin .eql) [t 54, i 3],
 m 56 55,
 y 57 56 .mv [t 1],
 y 58 56 (.faddr 1) [t 7],
 y 59 56 (.load 1 false) [t 58],
 y 60 56 (.call 103) [t 57, t 59],
 y 61 56 (.un .not) [t 60],
 o 62 .pick [t 56, t 61, b false],
 m 52 62]
def b71_17 : EC := .rg b71_17l false
@[simp] theorem b71_17e : Rg b71_17 b71_17l false := rgE _ _
@[simp] def b71_18l : List EO := [o 4 .mv [i 8]]
def b71_18 : EC := .rg b71_18l false
@[simp] theorem b71_18e : Rg b71_18 b71_18l false := rgE _ _
def b71_19 : EC := .sq b71_18 .rt
@[simp] theorem b71_19e : Sq b71_19 b71_18 .rt := sqE _ _
def b71_20 : EC := .cd (t 52) b71_19 .skip
@[simp] theorem b71_20e : Cd b71_20 (t 52) b71_19 .skip := cdE _ _ _
def b71_21 : EC := .sq b71_17 b71_20
@[simp] theorem b71_21e : Sq b71_21 b71_17 b71_20 := sqE _ _
def b71_22 : EC := .cd (t 42) b71_16 b71_21
@[simp] theorem b71_22e : Cd b71_22 (t 42) b71_16 b71_21 := cdE _ _ _
def b71_23 : EC := .sq b71_14 b71_22
@[simp] theorem b71_23e : Sq b71_23 b71_14 b71_22 := sqE _ _
def b71_24 : EC := .cd (t 35) b71_13 b71_23
@[simp] theorem b71_24e : Cd b71_24 (t 35) b71_13 b71_23 := cdE _ _ _
def b71_25 : EC := .sq b71_11 b71_24
@[simp] theorem b71_25e : Sq b71_25 b71_11 b71_24 := sqE _ _
def b71_26 : EC := .cd (t 31) b71_10 b71_25
@[simp] theorem b71_26e : Cd b71_26 (t 31) b71_10 b71_25 := cdE _ _ _
def b71_27 : EC := .sq b71_8 b71_26
@[simp] theorem b71_27e : Sq b71_27 b71_8 b71_26 := sqE _ _
def b71_28 : EC := .bk 2 b71_27
@[simp] theorem b71_28e : Bk b71_28 2 b71_27 := bkE _ _
@[simp] def b71_29l : List EO := [o 63 (.faddr 0) [t 7],
 o 64 (.load 1 false) [t 63],
 o 65 (.bin .eql) [t 64, i 1]]
def b71_29 : EC := .rg b71_29l false
@[simp] theorem b71_29e : Rg b71_29 b71_29l false := rgE _ _
@[simp] def b71_30l : List EO := [m 66 5,
 o 67 (.faddr 2) [t 7],
 o 68 (.load 1 false) [t 67],
 o 69 (.bsl 1) [t 68],
 o 70 (.appB 9 1 16) [t 66, t 69],
 m 5 70]
def b71_30 : EC := .rg b71_30l false
@[simp] theorem b71_30e : Rg b71_30 b71_30l false := rgE _ _
def b71_31 : EC := .cd (t 65) b71_30 .skip
@[simp] theorem b71_31e : Cd b71_31 (t 65) b71_30 .skip := cdE _ _ _
def b71_32 : EC := .sq b71_29 b71_31
@[simp] theorem b71_32e : Sq b71_32 b71_29 b71_31 := sqE _ _
def b71_33 : EC := .sq b71_28 b71_32
@[simp] theorem b71_33e : Sq b71_33 b71_28 b71_32 := sqE _ _
def b71_34 : EC := .sq b71_7 b71_33
@[simp] theorem b71_34e : Sq b71_34 b71_7 b71_33 := sqE _ _
def b71_35 : EC := .sq b71_6 b71_34
@[simp] theorem b71_35e : Sq b71_35 b71_6 b71_34 := sqE _ _
def b71_36 : EC := .bk 1 b71_35
@[simp] theorem b71_36e : Bk b71_36 1 b71_35 := bkE _ _
@[simp] def b71_37l : List EO := [m 15 6,
 o 16 (.bin .add) [t 15, i 1],
 m 6 16]
def b71_37 : EC := .rg b71_37l false
@[simp] theorem b71_37e : Rg b71_37 b71_37l false := rgE _ _
def b71_38 : EC := .sq b71_36 b71_37
@[simp] theorem b71_38e : Sq b71_38 b71_36 b71_37 := sqE _ _
def b71_39 : EC := .sq b71_5 b71_38
@[simp] theorem b71_39e : Sq b71_39 b71_5 b71_38 := sqE _ _
def b71_40 : EC := .bk 0 (.lp b71_39)
@[simp] theorem b71_40e : Bk b71_40 0 (.lp b71_39) := bkE _ _
def b71_41 : EC := .sq b71_2 b71_40
@[simp] theorem b71_41e : Sq b71_41 b71_2 b71_40 := sqE _ _
@[simp] def b71_42l : List EO := [m 71 1,
 o 72 (.faddr 3) [t 2],
 o 73 (.load 1 false) [t 72],
 o 74 (.call 103) [t 71, t 73],
 o 75 (.un .not) [t 74]]
def b71_42 : EC := .rg b71_42l false
@[simp] theorem b71_42e : Rg b71_42 b71_42l false := rgE _ _
@[simp] def b71_43l : List EO := [o 4 .mv [i 8]]
def b71_43 : EC := .rg b71_43l false
@[simp] theorem b71_43e : Rg b71_43 b71_43l false := rgE _ _
def b71_44 : EC := .sq b71_43 .rt
@[simp] theorem b71_44e : Sq b71_44 b71_43 .rt := sqE _ _
def b71_45 : EC := .cd (t 75) b71_44 .skip
@[simp] theorem b71_45e : Cd b71_45 (t 75) b71_44 .skip := cdE _ _ _
def b71_46 : EC := .sq b71_42 b71_45
@[simp] theorem b71_46e : Sq b71_46 b71_42 b71_45 := sqE _ _
@[simp] def b71_47l : List EO := [o 4 .mv [i 0]]
def b71_47 : EC := .rg b71_47l false
@[simp] theorem b71_47e : Rg b71_47 b71_47l false := rgE _ _
def b71_48 : EC := .sq b71_47 .rt
@[simp] theorem b71_48e : Sq b71_48 b71_47 .rt := sqE _ _
def b71_49 : EC := .sq b71_46 b71_48
@[simp] theorem b71_49e : Sq b71_49 b71_46 b71_48 := sqE _ _
def b71_50 : EC := .sq b71_41 b71_49
@[simp] theorem b71_50e : Sq b71_50 b71_41 b71_49 := sqE _ _
def b71_51 : EC := .sq b71_1 b71_50
@[simp] theorem b71_51e : Sq b71_51 b71_1 b71_50 := sqE _ _
def b71_52 : EC := .sq b71_0 b71_51
@[simp] theorem b71_52e : Sq b71_52 b71_0 b71_51 := sqE _ _
def b_tallystoneref33_rule_71 : EC := b71_52
theorem kb_71 : ecB Tryd.prog 71 = some (76, b_tallystoneref33_rule_71, [.tm 4]) := by kernel_rfl

/-- tallystone/tallystonelaw33.free -/
@[simp] def c72_0l : List EO := [o 3 .box [t 0],
 o 6 .mv [b false]]
def c72_0 : EC := .rg c72_0l false
@[simp] theorem c72_0e : Rg c72_0 c72_0l false := rgE _ _
@[simp] def c72_1l : List EO := [o 8 (.faddr 0) [t 3],
 o 9 (.load 1 false) [t 8],
 o 10 (.bin .eql) [t 9, i 2],
 m 11 10,
 y 12 11 .mv [t 2],
 y 13 11 (.faddr 4) [t 3],
 y 14 11 (.load 1 false) [t 13],
 y 15 11 (.call 37) [t 12, t 14],
 o 16 .pick [t 11, t 15, b false],
 m 17 16,
 y 18 17 .mv [t 1],
 y 19 17 (.faddr 4) [t 3],
 y 20 17 (.load 1 false) [t 19],
 y 21 17 (.call 37) [t 18, t 20],
 y 22 17 (.un .not) [t 21],
 o 23 .pick [t 17, t 22, b false]]
def c72_1 : EC := .rg c72_1l false
@[simp] theorem c72_1e : Rg c72_1 c72_1l false := rgE _ _
@[simp] def c72_2l : List EO := [o 6 .mv [b true]]
def c72_2 : EC := .rg c72_2l false
@[simp] theorem c72_2e : Rg c72_2 c72_2l false := rgE _ _
def c72_3 : EC := .sq c72_2 .rt
@[simp] theorem c72_3e : Sq c72_3 c72_2 .rt := sqE _ _
def c72_4 : EC := .cd (t 23) c72_3 .skip
@[simp] theorem c72_4e : Cd c72_4 (t 23) c72_3 .skip := cdE _ _ _
def c72_5 : EC := .sq c72_1 c72_4
@[simp] theorem c72_5e : Sq c72_5 c72_1 c72_4 := sqE _ _
@[simp] def c72_6l : List EO := [o 7 .mv [i 0]]
def c72_6 : EC := .rg c72_6l false
@[simp] theorem c72_6e : Rg c72_6 c72_6l false := rgE _ _
@[simp] def c72_7l : List EO := [m 24 7,
 o 25 (.faddr 5) [t 3],
 o 26 (.load 1 false) [t 25],
 o 27 .lenL [t 26],
 o 28 (.bin .lss) [t 24, t 27]]
def c72_7 : EC := .rg c72_7l false
@[simp] theorem c72_7e : Rg c72_7 c72_7l false := rgE _ _
def c72_8 : EC := .cd (t 28) .skip (.ex 0)
@[simp] theorem c72_8e : Cd c72_8 (t 28) .skip (.ex 0) := cdE _ _ _
def c72_9 : EC := .sq c72_7 c72_8
@[simp] theorem c72_9e : Sq c72_9 c72_7 c72_8 := sqE _ _
@[simp] def c72_10l : List EO := [o 31 (.faddr 5) [t 3],
 o 32 (.load 1 false) [t 31],
 m 33 7,
 o 34 (.iaS 6) [t 32, t 33],
 o 35 (.load 6 true) [t 34],
 m 36 1,
 m 37 2,
 o 38 (.call 72) [t 35, t 36, t 37]]
def c72_10 : EC := .rg c72_10l false
@[simp] theorem c72_10e : Rg c72_10 c72_10l false := rgE _ _
@[simp] def c72_11l : List EO := [o 6 .mv [b true]]
def c72_11 : EC := .rg c72_11l false
@[simp] theorem c72_11e : Rg c72_11 c72_11l false := rgE _ _
def c72_12 : EC := .sq c72_11 .rt
@[simp] theorem c72_12e : Sq c72_12 c72_11 .rt := sqE _ _
def c72_13 : EC := .cd (t 38) c72_12 .skip
@[simp] theorem c72_13e : Cd c72_13 (t 38) c72_12 .skip := cdE _ _ _
def c72_14 : EC := .sq c72_10 c72_13
@[simp] theorem c72_14e : Sq c72_14 c72_10 c72_13 := sqE _ _
def c72_15 : EC := .bk 1 c72_14
@[simp] theorem c72_15e : Bk c72_15 1 c72_14 := bkE _ _
@[simp] def c72_16l : List EO := [m 29 7,
 o 30 (.bin .add) [t 29, i 1],
 m 7 30]
def c72_16 : EC := .rg c72_16l false
@[simp] theorem c72_16e : Rg c72_16 c72_16l false := rgE _ _
def c72_17 : EC := .sq c72_15 c72_16
@[simp] theorem c72_17e : Sq c72_17 c72_15 c72_16 := sqE _ _
def c72_18 : EC := .sq c72_9 c72_17
@[simp] theorem c72_18e : Sq c72_18 c72_9 c72_17 := sqE _ _
def c72_19 : EC := .bk 0 (.lp c72_18)
@[simp] theorem c72_19e : Bk c72_19 0 (.lp c72_18) := bkE _ _
def c72_20 : EC := .sq c72_6 c72_19
@[simp] theorem c72_20e : Sq c72_20 c72_6 c72_19 := sqE _ _
@[simp] def c72_21l : List EO := [o 6 .mv [b false]]
def c72_21 : EC := .rg c72_21l false
@[simp] theorem c72_21e : Rg c72_21 c72_21l false := rgE _ _
def c72_22 : EC := .sq c72_21 .rt
@[simp] theorem c72_22e : Sq c72_22 c72_21 .rt := sqE _ _
def c72_23 : EC := .sq c72_20 c72_22
@[simp] theorem c72_23e : Sq c72_23 c72_20 c72_22 := sqE _ _
def c72_24 : EC := .sq c72_5 c72_23
@[simp] theorem c72_24e : Sq c72_24 c72_5 c72_23 := sqE _ _
def c72_25 : EC := .sq c72_0 c72_24
@[simp] theorem c72_25e : Sq c72_25 c72_0 c72_24 := sqE _ _
def c_tallystonelaw33_free_72 : EC := c72_25
theorem k_72 : ecF Tryd.prog 72 = some (39, c_tallystonelaw33_free_72, [.tm 6]) := by kernel_rfl

/-- tallystone/tallystoneref32.name -/
@[simp] def c73_0l : List EO := [o 2 .mv [b false]]
def c73_0 : EC := .rg c73_0l false
@[simp] theorem c73_0e : Rg c73_0 c73_0l false := rgE _ _
@[simp] def c73_1l : List EO := [o 3 .mv [i 0]]
def c73_1 : EC := .rg c73_1l false
@[simp] theorem c73_1e : Rg c73_1 c73_1l false := rgE _ _
@[simp] def c73_2l : List EO := [m 5 3,
 m 6 0,
 o 7 .lenS [t 6],
 o 8 (.bin .lss) [t 5, t 7]]
def c73_2 : EC := .rg c73_2l false
@[simp] theorem c73_2e : Rg c73_2 c73_2l false := rgE _ _
def c73_3 : EC := .cd (t 8) .skip (.ex 0)
@[simp] theorem c73_3e : Cd c73_3 (t 8) .skip (.ex 0) := cdE _ _ _
def c73_4 : EC := .sq c73_2 c73_3
@[simp] theorem c73_4e : Sq c73_4 c73_2 c73_3 := sqE _ _
@[simp] def c73_5l : List EO := [m 11 0,
 m 12 3,
 o 13 .ixS [t 11, t 12],
 m 4 13]
def c73_5 : EC := .rg c73_5l false
@[simp] theorem c73_5e : Rg c73_5 c73_5l false := rgE _ _
@[simp] def c73_6l : List EO := [m 14 4,
 o 15 (.bin .geq) [t 14, c (.t (.int .u8 97))],
 m 16 15,
 y 17 16 .mv [t 4],
 y 18 16 (.bin .leq) [t 17, c (.t (.int .u8 122))],
 o 19 .pick [t 16, t 18, b false],
 o 20 (.un .not) [t 19],
 m 21 20,
 y 22 21 .mv [t 3],
 y 23 21 (.bin .eql) [t 22, i 0],
 y 24 21 .mv [t 23],
 n 25 24 .mv [t 4],
 n 26 24 (.bin .geq) [t 25, c (.t (.int .u8 48))],
 n 27 24 .mv [t 26],
 y 28 27 .mv [t 4],
 y 29 27 (.bin .leq) [t 28, c (.t (.int .u8 57))],
 n 30 24 .pick [t 27, t 29, b false],
 n 31 24 (.un .not) [t 30],
 n 32 24 .mv [t 31],
 y 33 32 .mv [t 4],
 y 34 32 (.bin .neq) [t 33, c (.t (.int .u8 95))],
 n 35 24 .pick [t 32, t 34, b false],
 y 36 21 .pick [t 24, b true, t 35],
 o 37 .pick [t 21, t 36, b false]]
def c73_6 : EC := .rg c73_6l false
@[simp] theorem c73_6e : Rg c73_6 c73_6l false := rgE _ _
@[simp] def c73_7l : List EO := [o 2 .mv [b false]]
def c73_7 : EC := .rg c73_7l false
@[simp] theorem c73_7e : Rg c73_7 c73_7l false := rgE _ _
def c73_8 : EC := .sq c73_7 .rt
@[simp] theorem c73_8e : Sq c73_8 c73_7 .rt := sqE _ _
def c73_9 : EC := .cd (t 37) c73_8 .skip
@[simp] theorem c73_9e : Cd c73_9 (t 37) c73_8 .skip := cdE _ _ _
def c73_10 : EC := .sq c73_6 c73_9
@[simp] theorem c73_10e : Sq c73_10 c73_6 c73_9 := sqE _ _
def c73_11 : EC := .sq c73_5 c73_10
@[simp] theorem c73_11e : Sq c73_11 c73_5 c73_10 := sqE _ _
def c73_12 : EC := .bk 1 c73_11
@[simp] theorem c73_12e : Bk c73_12 1 c73_11 := bkE _ _
@[simp] def c73_13l : List EO := [m 9 3,
 o 10 (.bin .add) [t 9, i 1],
 m 3 10]
def c73_13 : EC := .rg c73_13l false
@[simp] theorem c73_13e : Rg c73_13 c73_13l false := rgE _ _
def c73_14 : EC := .sq c73_12 c73_13
@[simp] theorem c73_14e : Sq c73_14 c73_12 c73_13 := sqE _ _
def c73_15 : EC := .sq c73_4 c73_14
@[simp] theorem c73_15e : Sq c73_15 c73_4 c73_14 := sqE _ _
def c73_16 : EC := .bk 0 (.lp c73_15)
@[simp] theorem c73_16e : Bk c73_16 0 (.lp c73_15) := bkE _ _
def c73_17 : EC := .sq c73_1 c73_16
@[simp] theorem c73_17e : Sq c73_17 c73_1 c73_16 := sqE _ _
@[simp] def c73_18l : List EO := [m 38 0,
 o 39 .lenS [t 38],
 o 40 (.bin .geq) [t 39, i 1],
 m 41 40,
 y 42 41 .mv [t 0],
 y 43 41 .lenS [t 42],
 y 44 41 (.bin .leq) [t 43, i 16],
 o 45 .pick [t 41, t 44, b false],
 m 46 45,
 y 47 46 .mv [t 0],
 y 48 46 (.call 104) [t 47],
 y 49 46 (.un .not) [t 48],
 o 50 .pick [t 46, t 49, b false],
 m 2 50]
def c73_18 : EC := .rg c73_18l false
@[simp] theorem c73_18e : Rg c73_18 c73_18l false := rgE _ _
def c73_19 : EC := .sq c73_18 .rt
@[simp] theorem c73_19e : Sq c73_19 c73_18 .rt := sqE _ _
def c73_20 : EC := .sq c73_17 c73_19
@[simp] theorem c73_20e : Sq c73_20 c73_17 c73_19 := sqE _ _
def c73_21 : EC := .sq c73_0 c73_20
@[simp] theorem c73_21e : Sq c73_21 c73_0 c73_20 := sqE _ _
def c_tallystoneref32_name_73 : EC := c73_21
theorem k_73 : ecF Tryd.prog 73 = some (51, c_tallystoneref32_name_73, [.tm 2]) := by kernel_rfl

/-- tallystone/tallystoneref32.account -/
@[simp] def c74_0l : List EO := [o 2 .mv [b false]]
def c74_0 : EC := .rg c74_0l false
@[simp] theorem c74_0e : Rg c74_0 c74_0l false := rgE _ _
@[simp] def c74_1l : List EO := [m 3 0,
 o 4 (.bin .geq) [t 3, i 1],
 m 5 4,
 y 6 5 .mv [t 0],
 y 7 5 (.bin .leq) [t 6, i 99999],
 o 8 .pick [t 5, t 7, b false],
 m 2 8]
def c74_1 : EC := .rg c74_1l false
@[simp] theorem c74_1e : Rg c74_1 c74_1l false := rgE _ _
def c74_2 : EC := .sq c74_1 .rt
@[simp] theorem c74_2e : Sq c74_2 c74_1 .rt := sqE _ _
def c74_3 : EC := .sq c74_0 c74_2
@[simp] theorem c74_3e : Sq c74_3 c74_0 c74_2 := sqE _ _
def c_tallystoneref32_account_74 : EC := c74_3
theorem k_74 : ecF Tryd.prog 74 = some (9, c_tallystoneref32_account_74, [.tm 2]) := by kernel_rfl

/-- tallystone/tallystoneref32.Depth -/
@[simp] def c75_0l : List EO := [o 1 .box [t 0],
 o 2 .mv [i 0]]
def c75_0 : EC := .rg c75_0l false
@[simp] theorem c75_0e : Rg c75_0 c75_0l false := rgE _ _
@[simp] def c75_1l : List EO := [o 3 .mv [i 0]]
def c75_1 : EC := .rg c75_1l false
@[simp] theorem c75_1e : Rg c75_1 c75_1l false := rgE _ _
@[simp] def c75_2l : List EO := [o 4 .mv [i 0]]
def c75_2 : EC := .rg c75_2l false
@[simp] theorem c75_2e : Rg c75_2 c75_2l false := rgE _ _
@[simp] def c75_3l : List EO := [m 5 4,
 o 6 (.faddr 5) [t 1],
 o 7 (.load 1 false) [t 6],
 o 8 .lenL [t 7],
 o 9 (.bin .lss) [t 5, t 8]]
def c75_3 : EC := .rg c75_3l false
@[simp] theorem c75_3e : Rg c75_3 c75_3l false := rgE _ _
def c75_4 : EC := .cd (t 9) .skip (.ex 0)
@[simp] theorem c75_4e : Cd c75_4 (t 9) .skip (.ex 0) := cdE _ _ _
def c75_5 : EC := .sq c75_3 c75_4
@[simp] theorem c75_5e : Sq c75_5 c75_3 c75_4 := sqE _ _
@[simp] def c75_6l : List EO := [m 12 3,
 o 13 (.faddr 5) [t 1],
 o 14 (.load 1 false) [t 13],
 m 15 4,
 o 16 (.iaS 6) [t 14, t 15],
 o 17 (.load 6 true) [t 16],
 o 18 (.call 75) [t 17],
 o 19 (.mm true) [t 12, t 18],
 m 3 19]
def c75_6 : EC := .rg c75_6l false
@[simp] theorem c75_6e : Rg c75_6 c75_6l false := rgE _ _
def c75_7 : EC := .bk 1 c75_6
@[simp] theorem c75_7e : Bk c75_7 1 c75_6 := bkE _ _
@[simp] def c75_8l : List EO := [m 10 4,
 o 11 (.bin .add) [t 10, i 1],
 m 4 11]
def c75_8 : EC := .rg c75_8l false
@[simp] theorem c75_8e : Rg c75_8 c75_8l false := rgE _ _
def c75_9 : EC := .sq c75_7 c75_8
@[simp] theorem c75_9e : Sq c75_9 c75_7 c75_8 := sqE _ _
def c75_10 : EC := .sq c75_5 c75_9
@[simp] theorem c75_10e : Sq c75_10 c75_5 c75_9 := sqE _ _
def c75_11 : EC := .bk 0 (.lp c75_10)
@[simp] theorem c75_11e : Bk c75_11 0 (.lp c75_10) := bkE _ _
def c75_12 : EC := .sq c75_2 c75_11
@[simp] theorem c75_12e : Sq c75_12 c75_2 c75_11 := sqE _ _
@[simp] def c75_13l : List EO := [m 20 3,
 o 21 (.bin .add) [t 20, i 1],
 m 2 21]
def c75_13 : EC := .rg c75_13l false
@[simp] theorem c75_13e : Rg c75_13 c75_13l false := rgE _ _
def c75_14 : EC := .sq c75_13 .rt
@[simp] theorem c75_14e : Sq c75_14 c75_13 .rt := sqE _ _
def c75_15 : EC := .sq c75_12 c75_14
@[simp] theorem c75_15e : Sq c75_15 c75_12 c75_14 := sqE _ _
def c75_16 : EC := .sq c75_1 c75_15
@[simp] theorem c75_16e : Sq c75_16 c75_1 c75_15 := sqE _ _
def c75_17 : EC := .sq c75_0 c75_16
@[simp] theorem c75_17e : Sq c75_17 c75_0 c75_16 := sqE _ _
def c_tallystoneref32_Depth_75 : EC := c75_17
theorem k_75 : ecF Tryd.prog 75 = some (22, c_tallystoneref32_Depth_75, [.tm 2]) := by kernel_rfl

/-- tallystone/tallystoneref32.proper -/
@[simp] def c76_0l : List EO := [o 1 .box [t 0],
 o 2 .mv [b false]]
def c76_0 : EC := .rg c76_0l false
@[simp] theorem c76_0e : Rg c76_0 c76_0l false := rgE _ _
@[simp] def c76_1l : List EO := [o 4 (.faddr 5) [t 1],
 o 5 (.load 1 false) [t 4],
 o 6 .lenL [t 5],
 o 7 (.faddr 0) [t 1],
 o 8 (.load 1 false) [t 7],
 o 9 (.call 105) [t 8],
 o 10 (.bin .neq) [t 6, t 9]]
def c76_1 : EC := .rg c76_1l true
@[simp] theorem c76_1e : Rg c76_1 c76_1l true := rgE _ _
@[simp] def c76_2l : List EO := [o 2 .mv [b false]]
def c76_2 : EC := .rg c76_2l false
@[simp] theorem c76_2e : Rg c76_2 c76_2l false := rgE _ _
def c76_3 : EC := .sq c76_2 .rt
@[simp] theorem c76_3e : Sq c76_3 c76_2 .rt := sqE _ _
def c76_4 : EC := .cd (t 10) c76_3 .skip
@[simp] theorem c76_4e : Cd c76_4 (t 10) c76_3 .skip := cdE _ _ _
def c76_5 : EC := .sq c76_1 c76_4
@[simp] theorem c76_5e : Sq c76_5 c76_1 c76_4 := sqE _ _
@[simp] def c76_6l : List EO := [o 3 .mv [i 0]]
def c76_6 : EC := .rg c76_6l false
@[simp] theorem c76_6e : Rg c76_6 c76_6l false := rgE _ _
@[simp] def c76_7l : List EO := [m 11 3,
 o 12 (.faddr 5) [t 1],
 o 13 (.load 1 false) [t 12],
 o 14 .lenL [t 13],
 o 15 (.bin .lss) [t 11, t 14]]
def c76_7 : EC := .rg c76_7l false
@[simp] theorem c76_7e : Rg c76_7 c76_7l false := rgE _ _
def c76_8 : EC := .cd (t 15) .skip (.ex 0)
@[simp] theorem c76_8e : Cd c76_8 (t 15) .skip (.ex 0) := cdE _ _ _
def c76_9 : EC := .sq c76_7 c76_8
@[simp] theorem c76_9e : Sq c76_9 c76_7 c76_8 := sqE _ _
@[simp] def c76_10l : List EO := [o 18 (.faddr 5) [t 1],
 o 19 (.load 1 false) [t 18],
 m 20 3,
 o 21 (.iaS 6) [t 19, t 20],
 o 22 (.load 6 true) [t 21],
 o 23 (.call 76) [t 22],
 o 24 (.un .not) [t 23]]
def c76_10 : EC := .rg c76_10l false
@[simp] theorem c76_10e : Rg c76_10 c76_10l false := rgE _ _
@[simp] def c76_11l : List EO := [o 2 .mv [b false]]
def c76_11 : EC := .rg c76_11l false
@[simp] theorem c76_11e : Rg c76_11 c76_11l false := rgE _ _
def c76_12 : EC := .sq c76_11 .rt
@[simp] theorem c76_12e : Sq c76_12 c76_11 .rt := sqE _ _
def c76_13 : EC := .cd (t 24) c76_12 .skip
@[simp] theorem c76_13e : Cd c76_13 (t 24) c76_12 .skip := cdE _ _ _
def c76_14 : EC := .sq c76_10 c76_13
@[simp] theorem c76_14e : Sq c76_14 c76_10 c76_13 := sqE _ _
def c76_15 : EC := .bk 1 c76_14
@[simp] theorem c76_15e : Bk c76_15 1 c76_14 := bkE _ _
@[simp] def c76_16l : List EO := [m 16 3,
 o 17 (.bin .add) [t 16, i 1],
 m 3 17]
def c76_16 : EC := .rg c76_16l false
@[simp] theorem c76_16e : Rg c76_16 c76_16l false := rgE _ _
def c76_17 : EC := .sq c76_15 c76_16
@[simp] theorem c76_17e : Sq c76_17 c76_15 c76_16 := sqE _ _
def c76_18 : EC := .sq c76_9 c76_17
@[simp] theorem c76_18e : Sq c76_18 c76_9 c76_17 := sqE _ _
def c76_19 : EC := .bk 0 (.lp c76_18)
@[simp] theorem c76_19e : Bk c76_19 0 (.lp c76_18) := bkE _ _
def c76_20 : EC := .sq c76_6 c76_19
@[simp] theorem c76_20e : Sq c76_20 c76_6 c76_19 := sqE _ _
@[simp] def c76_21l : List EO := [o 25 (.faddr 0) [t 1],
 o 26 (.load 1 false) [t 25],
 o 27 (.bin .eql) [t 26, i 2],
 m 28 27,
 y 29 28 (.faddr 4) [t 1],
 y 30 28 (.load 1 false) [t 29],
 y 31 28 (.call 73) [t 30],
 y 32 28 (.un .not) [t 31],
 o 33 .pick [t 28, t 32, b false],
 m 34 33,
 n 35 34 (.faddr 0) [t 1],
 n 36 34 (.load 1 false) [t 35],
 n 37 34 (.bin .neq) [t 36, i 2],
 n 38 34 .mv [t 37],
 y 39 38 (.faddr 4) [t 1],
 y 40 38 (.load 1 false) [t 39],
 y 41 38 (.bin .neq) [t 40, c (.t (.str []))],
 n 42 34 .pick [t 38, t 41, b false],
 o 43 .pick [t 34, b true, t 42]]
def c76_21 : EC := .rg c76_21l false
@[simp] theorem c76_21e : Rg c76_21 c76_21l false := rgE _ _
@[simp] def c76_22l : List EO := [o 2 .mv [b false]]
def c76_22 : EC := .rg c76_22l false
@[simp] theorem c76_22e : Rg c76_22 c76_22l false := rgE _ _
def c76_23 : EC := .sq c76_22 .rt
@[simp] theorem c76_23e : Sq c76_23 c76_22 .rt := sqE _ _
def c76_24 : EC := .cd (t 43) c76_23 .skip
@[simp] theorem c76_24e : Cd c76_24 (t 43) c76_23 .skip := cdE _ _ _
def c76_25 : EC := .sq c76_21 c76_24
@[simp] theorem c76_25e : Sq c76_25 c76_21 c76_24 := sqE _ _
@[simp] def c76_26l : List EO := [o 44 (.faddr 0) [t 1],
 o 45 (.load 1 false) [t 44]]
def c76_26 : EC := .rg c76_26l false
@[simp] theorem c76_26e : Rg c76_26 c76_26l false := rgE _ _
@[simp] def c76_27l : List EO := [o 47 (.bin .eql) [t 45, i 21],
 m 46 47]
def c76_27 : EC := .rg c76_27l false
@[simp] theorem c76_27e : Rg c76_27 c76_27l false := rgE _ _
@[simp] def c76_28l : List EO := [o 48 (.bin .eql) [t 45, i 22],
 m 46 48]
def c76_28 : EC := .rg c76_28l false
@[simp] theorem c76_28e : Rg c76_28 c76_28l false := rgE _ _
def c76_29 : EC := .cd (t 46) .skip c76_28
@[simp] theorem c76_29e : Cd c76_29 (t 46) .skip c76_28 := cdE _ _ _
def c76_30 : EC := .sq c76_27 c76_29
@[simp] theorem c76_30e : Sq c76_30 c76_27 c76_29 := sqE _ _
@[simp] def c76_31l : List EO := [o 49 (.faddr 1) [t 1],
 o 50 (.load 1 false) [t 49],
 o 51 (.bin .eql) [t 50, i 0],
 m 52 51,
 y 53 52 (.faddr 2) [t 1],
 y 54 52 (.load 1 false) [t 53],
 y 55 52 (.call 74) [t 54],
 o 56 .pick [t 52, t 55, b false],
 m 57 56,
 y 58 57 (.faddr 3) [t 1],
 y 59 57 (.load 1 false) [t 58],
 y 60 57 (.call 74) [t 59],
 o 61 .pick [t 57, t 60, b false],
 m 2 61]
def c76_31 : EC := .rg c76_31l false
@[simp] theorem c76_31e : Rg c76_31 c76_31l false := rgE _ _
def c76_32 : EC := .sq c76_31 .rt
@[simp] theorem c76_32e : Sq c76_32 c76_31 .rt := sqE _ _
@[simp] def c76_33l : List EO := [o 63 (.bin .eql) [t 45, i 1],
 m 62 63]
def c76_33 : EC := .rg c76_33l false
@[simp] theorem c76_33e : Rg c76_33 c76_33l false := rgE _ _
@[simp] def c76_34l : List EO := [o 64 (.bin .eql) [t 45, i 20],
 m 62 64]
def c76_34 : EC := .rg c76_34l false
@[simp] theorem c76_34e : Rg c76_34 c76_34l false := rgE _ _
def c76_35 : EC := .cd (t 62) .skip c76_34
@[simp] theorem c76_35e : Cd c76_35 (t 62) .skip c76_34 := cdE _ _ _
def c76_36 : EC := .sq c76_33 c76_35
@[simp] theorem c76_36e : Sq c76_36 c76_33 c76_35 := sqE _ _
@[simp] def c76_37l : List EO := [o 65 (.faddr 2) [t 1],
 o 66 (.load 1 false) [t 65],
 o 67 (.bin .eql) [t 66, i 0],
 m 68 67,
 y 69 68 (.faddr 3) [t 1],
 y 70 68 (.load 1 false) [t 69],
 y 71 68 (.bin .eql) [t 70, i 0],
 o 72 .pick [t 68, t 71, b false],
 m 73 72,
 y 74 73 (.faddr 1) [t 1],
 y 75 73 (.load 1 false) [t 74],
 y 76 73 (.bin .leq) [t 75, i 1000000000000],
 o 77 .pick [t 73, t 76, b false],
 m 78 77,
 y 79 78 (.faddr 1) [t 1],
 y 80 78 (.load 1 false) [t 79],
 y 81 78 (.bin .gtr) [t 80, i 0],
 y 82 78 .mv [t 81],
 n 83 82 (.faddr 1) [t 1],
 n 84 82 (.load 1 false) [t 83],
 n 85 82 (.bin .eql) [t 84, i 0],
 n 86 82 .mv [t 85],
 y 87 86 (.faddr 0) [t 1],
 y 88 86 (.load 1 false) [t 87],
 y 89 86 (.bin .eql) [t 88, i 1],
 n 90 82 .pick [t 86, t 89, b false],
 y 91 78 .pick [t 82, b true, t 90],
 o 92 .pick [t 78, t 91, b false],
 m 2 92]
def c76_37 : EC := .rg c76_37l false
@[simp] theorem c76_37e : Rg c76_37 c76_37l false := rgE _ _
def c76_38 : EC := .sq c76_37 .rt
@[simp] theorem c76_38e : Sq c76_38 c76_37 .rt := sqE _ _
def c76_39 : EC := .cd (t 62) c76_38 .skip
@[simp] theorem c76_39e : Cd c76_39 (t 62) c76_38 .skip := cdE _ _ _
def c76_40 : EC := .sq c76_36 c76_39
@[simp] theorem c76_40e : Sq c76_40 c76_36 c76_39 := sqE _ _
def c76_41 : EC := .cd (t 46) c76_32 c76_40
@[simp] theorem c76_41e : Cd c76_41 (t 46) c76_32 c76_40 := cdE _ _ _
def c76_42 : EC := .sq c76_30 c76_41
@[simp] theorem c76_42e : Sq c76_42 c76_30 c76_41 := sqE _ _
def c76_43 : EC := .bk 2 c76_42
@[simp] theorem c76_43e : Bk c76_43 2 c76_42 := bkE _ _
def c76_44 : EC := .sq c76_26 c76_43
@[simp] theorem c76_44e : Sq c76_44 c76_26 c76_43 := sqE _ _
@[simp] def c76_45l : List EO := [o 93 (.faddr 1) [t 1],
 o 94 (.load 1 false) [t 93],
 o 95 (.bin .eql) [t 94, i 0],
 m 96 95,
 y 97 96 (.faddr 2) [t 1],
 y 98 96 (.load 1 false) [t 97],
 y 99 96 (.bin .eql) [t 98, i 0],
 o 100 .pick [t 96, t 99, b false],
 m 101 100,
 y 102 101 (.faddr 3) [t 1],
 y 103 101 (.load 1 false) [t 102],
 y 104 101 (.bin .eql) [t 103, i 0],
 o 105 .pick [t 101, t 104, b false],
 m 2 105]
def c76_45 : EC := .rg c76_45l false
@[simp] theorem c76_45e : Rg c76_45 c76_45l false := rgE _ _
def c76_46 : EC := .sq c76_45 .rt
@[simp] theorem c76_46e : Sq c76_46 c76_45 .rt := sqE _ _
def c76_47 : EC := .sq c76_44 c76_46
@[simp] theorem c76_47e : Sq c76_47 c76_44 c76_46 := sqE _ _
def c76_48 : EC := .sq c76_25 c76_47
@[simp] theorem c76_48e : Sq c76_48 c76_25 c76_47 := sqE _ _
def c76_49 : EC := .sq c76_20 c76_48
@[simp] theorem c76_49e : Sq c76_49 c76_20 c76_48 := sqE _ _
def c76_50 : EC := .sq c76_5 c76_49
@[simp] theorem c76_50e : Sq c76_50 c76_5 c76_49 := sqE _ _
def c76_51 : EC := .sq c76_0 c76_50
@[simp] theorem c76_51e : Sq c76_51 c76_0 c76_50 := sqE _ _
def c_tallystoneref32_proper_76 : EC := c76_51
theorem k_76 : ecF Tryd.prog 76 = some (106, c_tallystoneref32_proper_76, [.tm 2]) := by kernel_rfl

/-- slices.Sort[[]int,int] -/
@[simp] def c77_0l : List EO := [m 3 0,
 o 4 .lenL [t 3],
 m 2 4]
def c77_0 : EC := .rg c77_0l false
@[simp] theorem c77_0e : Rg c77_0 c77_0l false := rgE _ _
@[simp] def c77_1l : List EO := [m 5 0,
 m 6 2,
 m 7 2,
 o 8 (.cvI .u64) [t 7],
 o 9 (.call 107) [t 8],
 o 10 (.call 106) [t 5, i 0, t 6, t 9]]
def c77_1 : EC := .rg c77_1l false
@[simp] theorem c77_1e : Rg c77_1 c77_1l false := rgE _ _
def c77_2 : EC := .sq c77_0 c77_1
@[simp] theorem c77_2e : Sq c77_2 c77_0 c77_1 := sqE _ _
def c_slices_Sort___int_int__77 : EC := c77_2
theorem k_77 : ecF Tryd.prog 77 = some (11, c_slices_Sort___int_int__77, []) := by kernel_rfl
end Go.Proofs.YtkapabohpfkcoaaDoor
