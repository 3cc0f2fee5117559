/- The code of the functions of this seat, as the engine reads it; printed by program out of the translation, checked by the kernel. -/
import Derived.Test.YtkapabohpfkcoaaDoorEd
import Derived.Test.YtkapabohpfkcoaaDoorProg
set_option linter.unusedSimpArgs false
set_option linter.unusedVariables false
namespace Go.Proofs.YtkapabohpfkcoaaDoor
open Go.Proofs E E.Z
variable {P : Program} {nb nt : Nat} {Q : Ex → Fr → St → Prop} {a : Fr} {S : St}
/-- tallystone/tallystoneref34.uses -/
@[simp] def c65_0l : List EO := [o 2 .mv [i 0]]
def c65_0 : EC := .rg c65_0l false
@[simp] theorem c65_0e : Rg c65_0 c65_0l false := rgE _ _
@[simp] def c65_1l : List EO := [m 3 0]
def c65_1 : EC := .rg c65_1l false
@[simp] theorem c65_1e : Rg c65_1 c65_1l false := rgE _ _
@[simp] def c65_2l : List EO := [o 5 (.bin .eql) [t 3, i 3],
 m 4 5]
def c65_2 : EC := .rg c65_2l false
@[simp] theorem c65_2e : Rg c65_2 c65_2l false := rgE _ _
@[simp] def c65_3l : List EO := [o 6 (.bin .eql) [t 3, i 4],
 m 4 6]
def c65_3 : EC := .rg c65_3l false
@[simp] theorem c65_3e : Rg c65_3 c65_3l false := rgE _ _
def c65_4 : EC := .cd (t 4) .skip c65_3
@[simp] theorem c65_4e : Cd c65_4 (t 4) .skip c65_3 := cdE _ _ _
def c65_5 : EC := .sq c65_2 c65_4
@[simp] theorem c65_5e : Sq c65_5 c65_2 c65_4 := sqE _ _
@[simp] def c65_6l : List EO := [o 2 .mv [i 2]]
def c65_6 : EC := .rg c65_6l false
@[simp] theorem c65_6e : Rg c65_6 c65_6l false := rgE _ _
def c65_7 : EC := .sq c65_6 .rt
@[simp] theorem c65_7e : Sq c65_7 c65_6 .rt := sqE _ _
@[simp] def c65_8l : List EO := [o 8 (.bin .eql) [t 3, i 1],
 m 7 8]
def c65_8 : EC := .rg c65_8l false
@[simp] theorem c65_8e : Rg c65_8 c65_8l false := rgE _ _
@[simp] def c65_9l : List EO := [o 9 (.bin .eql) [t 3, i 2],
 m 7 9]
def c65_9 : EC := .rg c65_9l false
@[simp] theorem c65_9e : Rg c65_9 c65_9l false := rgE _ _
@[simp] def c65_10l : List EO := [o 10 (.bin .eql) [t 3, i 9],
 m 7 10]
def c65_10 : EC := .rg c65_10l false
@[simp] theorem c65_10e : Rg c65_10 c65_10l false := rgE _ _
@[simp] def c65_11l : List EO := [o 11 (.bin .eql) [t 3, i 23],
 m 7 11]
def c65_11 : EC := .rg c65_11l false
@[simp] theorem c65_11e : Rg c65_11 c65_11l false := rgE _ _
@[simp] def c65_12l : List EO := [o 12 (.bin .eql) [t 3, i 25],
 m 7 12]
def c65_12 : EC := .rg c65_12l false
@[simp] theorem c65_12e : Rg c65_12 c65_12l false := rgE _ _
@[simp] def c65_13l : List EO := [o 13 (.bin .eql) [t 3, i 26],
 m 7 13]
def c65_13 : EC := .rg c65_13l false
@[simp] theorem c65_13e : Rg c65_13 c65_13l false := rgE _ _
def c65_14 : EC := .cd (t 7) .skip c65_13
@[simp] theorem c65_14e : Cd c65_14 (t 7) .skip c65_13 := cdE _ _ _
def c65_15 : EC := .sq c65_12 c65_14
@[simp] theorem c65_15e : Sq c65_15 c65_12 c65_14 := sqE _ _
def c65_16 : EC := .cd (t 7) .skip c65_15
@[simp] theorem c65_16e : Cd c65_16 (t 7) .skip c65_15 := cdE _ _ _
def c65_17 : EC := .sq c65_11 c65_16
@[simp] theorem c65_17e : Sq c65_17 c65_11 c65_16 := sqE _ _
def c65_18 : EC := .cd (t 7) .skip c65_17
@[simp] theorem c65_18e : Cd c65_18 (t 7) .skip c65_17 := cdE _ _ _
def c65_19 : EC := .sq c65_10 c65_18
@[simp] theorem c65_19e : Sq c65_19 c65_10 c65_18 := sqE _ _
def c65_20 : EC := .cd (t 7) .skip c65_19
@[simp] theorem c65_20e : Cd c65_20 (t 7) .skip c65_19 := cdE _ _ _
def c65_21 : EC := .sq c65_9 c65_20
@[simp] theorem c65_21e : Sq c65_21 c65_9 c65_20 := sqE _ _
def c65_22 : EC := .cd (t 7) .skip c65_21
@[simp] theorem c65_22e : Cd c65_22 (t 7) .skip c65_21 := cdE _ _ _
def c65_23 : EC := .sq c65_8 c65_22
@[simp] theorem c65_23e : Sq c65_23 c65_8 c65_22 := sqE _ _
@[simp] def c65_24l : List EO := [o 2 .mv [i 1]]
def c65_24 : EC := .rg c65_24l false
@[simp] theorem c65_24e : Rg c65_24 c65_24l false := rgE _ _
def c65_25 : EC := .sq c65_24 .rt
@[simp] theorem c65_25e : Sq c65_25 c65_24 .rt := sqE _ _
def c65_26 : EC := .cd (t 7) c65_25 .skip
@[simp] theorem c65_26e : Cd c65_26 (t 7) c65_25 .skip := cdE _ _ _
def c65_27 : EC := .sq c65_23 c65_26
@[simp] theorem c65_27e : Sq c65_27 c65_23 c65_26 := sqE _ _
def c65_28 : EC := .cd (t 4) c65_7 c65_27
@[simp] theorem c65_28e : Cd c65_28 (t 4) c65_7 c65_27 := cdE _ _ _
def c65_29 : EC := .sq c65_5 c65_28
@[simp] theorem c65_29e : Sq c65_29 c65_5 c65_28 := sqE _ _
def c65_30 : EC := .bk 0 c65_29
@[simp] theorem c65_30e : Bk c65_30 0 c65_29 := bkE _ _
def c65_31 : EC := .sq c65_1 c65_30
@[simp] theorem c65_31e : Sq c65_31 c65_1 c65_30 := sqE _ _
@[simp] def c65_32l : List EO := [o 2 .mv [i 0]]
def c65_32 : EC := .rg c65_32l false
@[simp] theorem c65_32e : Rg c65_32 c65_32l false := rgE _ _
def c65_33 : EC := .sq c65_32 .rt
@[simp] theorem c65_33e : Sq c65_33 c65_32 .rt := sqE _ _
def c65_34 : EC := .sq c65_31 c65_33
@[simp] theorem c65_34e : Sq c65_34 c65_31 c65_33 := sqE _ _
def c65_35 : EC := .sq c65_0 c65_34
@[simp] theorem c65_35e : Sq c65_35 c65_0 c65_34 := sqE _ _
def c_tallystoneref34_uses_65 : EC := c65_35
theorem k_65 : ecF Tryd.prog 65 = some (14, c_tallystoneref34_uses_65, [.tm 2]) := by kernel_rfl

/-- tallystone/tallystoneref34.number -/
@[simp] def c66_0l : List EO := [o 2 .mv [c (.t (.str []))]]
def c66_0 : EC := .rg c66_0l false
@[simp] theorem c66_0e : Rg c66_0 c66_0l false := rgE _ _
@[simp] def c66_1l : List EO := [m 5 0,
 o 6 (.bin .lss) [t 5, i 0]]
def c66_1 : EC := .rg c66_1l false
@[simp] theorem c66_1e : Rg c66_1 c66_1l false := rgE _ _
@[simp] def c66_2l : List EO := [m 7 0,
 o 8 (.un .neg) [t 7],
 o 9 (.call 66) [t 8],
 o 10 (.bin .add) [c (.t (.str [45])), t 9],
 m 2 10]
def c66_2 : EC := .rg c66_2l false
@[simp] theorem c66_2e : Rg c66_2 c66_2l false := rgE _ _
def c66_3 : EC := .sq c66_2 .rt
@[simp] theorem c66_3e : Sq c66_3 c66_2 .rt := sqE _ _
def c66_4 : EC := .cd (t 6) c66_3 .skip
@[simp] theorem c66_4e : Cd c66_4 (t 6) c66_3 .skip := cdE _ _ _
def c66_5 : EC := .sq c66_1 c66_4
@[simp] theorem c66_5e : Sq c66_5 c66_1 c66_4 := sqE _ _
@[simp] def c66_6l : List EO := [o 3 .mv [c (.t (.str [48, 49, 50, 51, 52, 53, 54, 55, 56, 57]))]]
def c66_6 : EC := .rg c66_6l false
@[simp] theorem c66_6e : Rg c66_6 c66_6l false := rgE _ _
@[simp] def c66_7l : List EO := [o 4 .mv [c (.t (.str []))]]
def c66_7 : EC := .rg c66_7l false
@[simp] theorem c66_7e : Rg c66_7 c66_7l false := rgE _ _
@[simp] def c66_8l : List EO := [m 11 0,
 o 12 (.bin .gtr) [t 11, i 0],
 m 13 12,
 n 14 13 .mv [t 4],
 n 15 13 (.bin .eql) [t 14, c (.t (.str []))],
 o 16 .pick [t 13, b true, t 15]]
def c66_8 : EC := .rg c66_8l false
@[simp] theorem c66_8e : Rg c66_8 c66_8l false := rgE _ _
def c66_9 : EC := .cd (t 16) .skip (.ex 0)
@[simp] theorem c66_9e : Cd c66_9 (t 16) .skip (.ex 0) := cdE _ _ _
def c66_10 : EC := .sq c66_8 c66_9
@[simp] theorem c66_10e : Sq c66_10 c66_8 c66_9 := sqE _ _
@[simp] def c66_11l : List EO := [m 17 3,
 m 18 0,
 o 19 (.bin .rem) [t 18, i 10],
 m 20 0,
 o 21 (.bin .rem) [t 20, i 10],
 o 22 (.bin .add) [t 21, i 1],
 o 23 (.slS true true) [t 17, t 19, t 22],
 m 24 4,
 o 25 (.bin .add) [t 23, t 24],
 m 4 25]
def c66_11 : EC := .rg c66_11l false
@[simp] theorem c66_11e : Rg c66_11 c66_11l false := rgE _ _
@[simp] def c66_12l : List EO := [m 26 0,
 o 27 (.bin .quo) [t 26, i 10],
 m 0 27]
def c66_12 : EC := .rg c66_12l false
@[simp] theorem c66_12e : Rg c66_12 c66_12l false := rgE _ _
def c66_13 : EC := .sq c66_11 c66_12
@[simp] theorem c66_13e : Sq c66_13 c66_11 c66_12 := sqE _ _
def c66_14 : EC := .bk 1 c66_13
@[simp] theorem c66_14e : Bk c66_14 1 c66_13 := bkE _ _
def c66_15 : EC := .sq c66_10 c66_14
@[simp] theorem c66_15e : Sq c66_15 c66_10 c66_14 := sqE _ _
def c66_16 : EC := .bk 0 (.lp c66_15)
@[simp] theorem c66_16e : Bk c66_16 0 (.lp c66_15) := bkE _ _
@[simp] def c66_17l : List EO := [m 28 4,
 m 2 28]
def c66_17 : EC := .rg c66_17l false
@[simp] theorem c66_17e : Rg c66_17 c66_17l false := rgE _ _
def c66_18 : EC := .sq c66_17 .rt
@[simp] theorem c66_18e : Sq c66_18 c66_17 .rt := sqE _ _
def c66_19 : EC := .sq c66_16 c66_18
@[simp] theorem c66_19e : Sq c66_19 c66_16 c66_18 := sqE _ _
def c66_20 : EC := .sq c66_7 c66_19
@[simp] theorem c66_20e : Sq c66_20 c66_7 c66_19 := sqE _ _
def c66_21 : EC := .sq c66_6 c66_20
@[simp] theorem c66_21e : Sq c66_21 c66_6 c66_20 := sqE _ _
def c66_22 : EC := .sq c66_5 c66_21
@[simp] theorem c66_22e : Sq c66_22 c66_5 c66_21 := sqE _ _
def c66_23 : EC := .sq c66_0 c66_22
@[simp] theorem c66_23e : Sq c66_23 c66_0 c66_22 := sqE _ _
def c_tallystoneref34_number_66 : EC := c66_23
theorem k_66 : ecF Tryd.prog 66 = some (29, c_tallystoneref34_number_66, [.tm 2]) := by kernel_rfl

/-- tallystone/tallystoneref34.Takes -/
@[simp] def c67_0l : List EO := [o 2 .mv [i 0],
 o 3 .mv [i 0]]
def c67_0 : EC := .rg c67_0l false
@[simp] theorem c67_0e : Rg c67_0 c67_0l false := rgE _ _
@[simp] def c67_1l : List EO := [m 5 0,
 o 6 (.bin .geq) [t 5, i 1],
 m 7 6,
 y 8 7 .mv [t 0],
 y 9 7 (.bin .leq) [t 8, i 4],
 o 10 .pick [t 7, t 9, b false],
 m 4 10]
def c67_1 : EC := .rg c67_1l false
@[simp] theorem c67_1e : Rg c67_1 c67_1l false := rgE _ _
@[simp] def c67_2l : List EO := [o 2 .mv [i 0],
 o 3 .mv [i 1]]
def c67_2 : EC := .rg c67_2l false
@[simp] theorem c67_2e : Rg c67_2 c67_2l false := rgE _ _
def c67_3 : EC := .sq c67_2 .rt
@[simp] theorem c67_3e : Sq c67_3 c67_2 .rt := sqE _ _
@[simp] def c67_4l : List EO := [m 12 0,
 o 13 (.bin .geq) [t 12, i 5],
 m 14 13,
 y 15 14 .mv [t 0],
 y 16 14 (.bin .leq) [t 15, i 9],
 o 17 .pick [t 14, t 16, b false],
 m 11 17]
def c67_4 : EC := .rg c67_4l false
@[simp] theorem c67_4e : Rg c67_4 c67_4l false := rgE _ _
@[simp] def c67_5l : List EO := [o 2 .mv [i 1],
 o 3 .mv [i 1]]
def c67_5 : EC := .rg c67_5l false
@[simp] theorem c67_5e : Rg c67_5 c67_5l false := rgE _ _
def c67_6 : EC := .sq c67_5 .rt
@[simp] theorem c67_6e : Sq c67_6 c67_5 .rt := sqE _ _
@[simp] def c67_7l : List EO := [m 19 0,
 o 20 (.bin .geq) [t 19, i 10],
 m 21 20,
 y 22 21 .mv [t 0],
 y 23 21 (.bin .leq) [t 22, i 22],
 o 24 .pick [t 21, t 23, b false],
 m 18 24]
def c67_7 : EC := .rg c67_7l false
@[simp] theorem c67_7e : Rg c67_7 c67_7l false := rgE _ _
@[simp] def c67_8l : List EO := [o 2 .mv [i 2],
 o 3 .mv [i 1]]
def c67_8 : EC := .rg c67_8l false
@[simp] theorem c67_8e : Rg c67_8 c67_8l false := rgE _ _
def c67_9 : EC := .sq c67_8 .rt
@[simp] theorem c67_9e : Sq c67_9 c67_8 .rt := sqE _ _
@[simp] def c67_10l : List EO := [m 26 0,
 o 27 (.bin .geq) [t 26, i 23],
 m 28 27,
 y 29 28 .mv [t 0],
 y 30 28 (.bin .leq) [t 29, i 25],
 o 31 .pick [t 28, t 30, b false],
 m 25 31]
def c67_10 : EC := .rg c67_10l false
@[simp] theorem c67_10e : Rg c67_10 c67_10l false := rgE _ _
@[simp] def c67_11l : List EO := [o 2 .mv [i 1],
 o 3 .mv [i 0]]
def c67_11 : EC := .rg c67_11l false
@[simp] theorem c67_11e : Rg c67_11 c67_11l false := rgE _ _
def c67_12 : EC := .sq c67_11 .rt
@[simp] theorem c67_12e : Sq c67_12 c67_11 .rt := sqE _ _
def c67_13 : EC := .cd (t 25) c67_12 .skip
@[simp] theorem c67_13e : Cd c67_13 (t 25) c67_12 .skip := cdE _ _ _
def c67_14 : EC := .sq c67_10 c67_13
@[simp] theorem c67_14e : Sq c67_14 c67_10 c67_13 := sqE _ _
def c67_15 : EC := .cd (t 18) c67_9 c67_14
@[simp] theorem c67_15e : Cd c67_15 (t 18) c67_9 c67_14 := cdE _ _ _
def c67_16 : EC := .sq c67_7 c67_15
@[simp] theorem c67_16e : Sq c67_16 c67_7 c67_15 := sqE _ _
def c67_17 : EC := .cd (t 11) c67_6 c67_16
@[simp] theorem c67_17e : Cd c67_17 (t 11) c67_6 c67_16 := cdE _ _ _
def c67_18 : EC := .sq c67_4 c67_17
@[simp] theorem c67_18e : Sq c67_18 c67_4 c67_17 := sqE _ _
def c67_19 : EC := .cd (t 4) c67_3 c67_18
@[simp] theorem c67_19e : Cd c67_19 (t 4) c67_3 c67_18 := cdE _ _ _
def c67_20 : EC := .sq c67_1 c67_19
@[simp] theorem c67_20e : Sq c67_20 c67_1 c67_19 := sqE _ _
def c67_21 : EC := .bk 0 c67_20
@[simp] theorem c67_21e : Bk c67_21 0 c67_20 := bkE _ _
@[simp] def c67_22l : List EO := [o 2 .mv [i 0],
 o 3 .mv [i 0]]
def c67_22 : EC := .rg c67_22l false
@[simp] theorem c67_22e : Rg c67_22 c67_22l false := rgE _ _
def c67_23 : EC := .sq c67_22 .rt
@[simp] theorem c67_23e : Sq c67_23 c67_22 .rt := sqE _ _
def c67_24 : EC := .sq c67_21 c67_23
@[simp] theorem c67_24e : Sq c67_24 c67_21 c67_23 := sqE _ _
def c67_25 : EC := .sq c67_0 c67_24
@[simp] theorem c67_25e : Sq c67_25 c67_0 c67_24 := sqE _ _
def c_tallystoneref34_Takes_67 : EC := c67_25
theorem k_67 : ecF Tryd.prog 67 = some (32, c_tallystoneref34_Takes_67, [.tm 2, .tm 3]) := by kernel_rfl

/-- tallystone/compile.numbers -/
@[simp] def c92_0l : List EO := [o 3 .box [t 0],
 o 4 .box [t 1],
 o 6 .mv [b false]]
def c92_0 : EC := .rg c92_0l false
@[simp] theorem c92_0e : Rg c92_0 c92_0l false := rgE _ _
@[simp] def c92_1l : List EO := [o 7 (.faddr 0) [t 3],
 o 8 (.load 1 false) [t 7]]
def c92_1 : EC := .rg c92_1l false
@[simp] theorem c92_1e : Rg c92_1 c92_1l false := rgE _ _
@[simp] def c92_2l : List EO := [o 10 (.bin .eql) [t 8, i 1],
 m 9 10]
def c92_2 : EC := .rg c92_2l false
@[simp] theorem c92_2e : Rg c92_2 c92_2l false := rgE _ _
@[simp] def c92_3l : List EO := [o 11 (.faddr 1) [t 3],
 o 12 (.load 1 false) [t 11],
 o 13 (.call 45) [t 12],
 m 14 13,
 y 15 14 (.faddr 2) [t 3],
 y 16 14 (.load 1 false) [t 15],
 y 17 14 (.bin .eql) [t 16, i 0],
 o 18 .pick [t 14, t 17, b false],
 m 6 18]
def c92_3 : EC := .rg c92_3l false
@[simp] theorem c92_3e : Rg c92_3 c92_3l false := rgE _ _
def c92_4 : EC := .sq c92_3 .rt
@[simp] theorem c92_4e : Sq c92_4 c92_3 .rt := sqE _ _
@[simp] def c92_5l : List EO := [o 20 (.bin .eql) [t 8, i 2],
 m 19 20]
def c92_5 : EC := .rg c92_5l false
@[simp] theorem c92_5e : Rg c92_5 c92_5l false := rgE _ _
@[simp] def c92_6l : List EO := [o 21 (.faddr 1) [t 3],
 o 22 (.load 1 false) [t 21],
 o 23 (.bin .geq) [t 22, i 0],
 m 24 23,
 y 25 24 (.faddr 1) [t 3],
 y 26 24 (.load 1 false) [t 25],
 y 27 24 .mv [t 2],
 y 28 24 (.bin .lss) [t 26, t 27],
 o 29 .pick [t 24, t 28, b false],
 m 30 29,
 y 31 30 (.faddr 2) [t 3],
 y 32 30 (.load 1 false) [t 31],
 y 33 30 (.bin .eql) [t 32, i 0],
 o 34 .pick [t 30, t 33, b false],
 m 6 34]
def c92_6 : EC := .rg c92_6l false
@[simp] theorem c92_6e : Rg c92_6 c92_6l false := rgE _ _
def c92_7 : EC := .sq c92_6 .rt
@[simp] theorem c92_7e : Sq c92_7 c92_6 .rt := sqE _ _
@[simp] def c92_8l : List EO := [o 36 (.bin .eql) [t 8, i 3],
 m 35 36]
def c92_8 : EC := .rg c92_8l false
@[simp] theorem c92_8e : Rg c92_8 c92_8l false := rgE _ _
@[simp] def c92_9l : List EO := [o 37 (.bin .eql) [t 8, i 4],
 m 35 37]
def c92_9 : EC := .rg c92_9l false
@[simp] theorem c92_9e : Rg c92_9 c92_9l false := rgE _ _
def c92_10 : EC := .cd (t 35) .skip c92_9
@[simp] theorem c92_10e : Cd c92_10 (t 35) .skip c92_9 := cdE _ _ _
def c92_11 : EC := .sq c92_8 c92_10
@[simp] theorem c92_11e : Sq c92_11 c92_8 c92_10 := sqE _ _
@[simp] def c92_12l : List EO := [o 38 (.faddr 1) [t 3],
 o 39 (.load 1 false) [t 38],
 o 40 (.call 116) [t 39],
 m 41 40,
 y 42 41 (.faddr 2) [t 3],
 y 43 41 (.load 1 false) [t 42],
 y 44 41 (.call 116) [t 43],
 o 45 .pick [t 41, t 44, b false],
 m 46 45,
 y 47 46 (.faddr 1) [t 3],
 y 48 46 (.load 1 false) [t 47],
 y 49 46 (.faddr 2) [t 3],
 y 50 46 (.load 1 false) [t 49],
 y 51 46 (.bin .leq) [t 48, t 50],
 o 52 .pick [t 46, t 51, b false],
 m 53 52,
 y 54 53 (.faddr 0) [t 3],
 y 55 53 (.load 1 false) [t 54],
 y 56 53 (.bin .eql) [t 55, i 3],
 y 57 53 .mv [t 56],
 n 58 57 (.faddr 1) [t 4],
 n 59 57 (.load 1 false) [t 58],
 y 60 53 .pick [t 57, b true, t 59],
 o 61 .pick [t 53, t 60, b false],
 m 6 61]
def c92_12 : EC := .rg c92_12l false
@[simp] theorem c92_12e : Rg c92_12 c92_12l false := rgE _ _
def c92_13 : EC := .sq c92_12 .rt
@[simp] theorem c92_13e : Sq c92_13 c92_12 .rt := sqE _ _
@[simp] def c92_14l : List EO := [o 63 (.bin .eql) [t 8, i 9],
 m 62 63]
def c92_14 : EC := .rg c92_14l false
@[simp] theorem c92_14e : Rg c92_14 c92_14l false := rgE _ _
@[simp] def c92_15l : List EO := [o 64 (.faddr 1) [t 3],
 o 65 (.load 1 false) [t 64],
 o 66 (.bin .geq) [t 65, i 1],
 m 67 66,
 y 68 67 (.faddr 1) [t 3],
 y 69 67 (.load 1 false) [t 68],
 y 70 67 (.call 45) [t 69],
 o 71 .pick [t 67, t 70, b false],
 m 72 71,
 y 73 72 (.faddr 2) [t 3],
 y 74 72 (.load 1 false) [t 73],
 y 75 72 (.bin .eql) [t 74, i 0],
 o 76 .pick [t 72, t 75, b false],
 m 6 76]
def c92_15 : EC := .rg c92_15l false
@[simp] theorem c92_15e : Rg c92_15 c92_15l false := rgE _ _
def c92_16 : EC := .sq c92_15 .rt
@[simp] theorem c92_16e : Sq c92_16 c92_15 .rt := sqE _ _
@[simp] def c92_17l : List EO := [o 78 (.bin .eql) [t 8, i 23],
 m 77 78]
def c92_17 : EC := .rg c92_17l false
@[simp] theorem c92_17e : Rg c92_17 c92_17l false := rgE _ _
@[simp] def c92_18l : List EO := [o 79 (.faddr 1) [t 3],
 o 80 (.load 1 false) [t 79],
 m 81 2,
 o 82 (.bin .eql) [t 80, t 81],
 m 83 82,
 y 84 83 (.faddr 2) [t 3],
 y 85 83 (.load 1 false) [t 84],
 y 86 83 (.bin .eql) [t 85, i 0],
 o 87 .pick [t 83, t 86, b false],
 m 6 87]
def c92_18 : EC := .rg c92_18l false
@[simp] theorem c92_18e : Rg c92_18 c92_18l false := rgE _ _
def c92_19 : EC := .sq c92_18 .rt
@[simp] theorem c92_19e : Sq c92_19 c92_18 .rt := sqE _ _
@[simp] def c92_20l : List EO := [o 89 (.bin .eql) [t 8, i 25],
 m 88 89]
def c92_20 : EC := .rg c92_20l false
@[simp] theorem c92_20e : Rg c92_20 c92_20l false := rgE _ _
@[simp] def c92_21l : List EO := [o 90 (.bin .eql) [t 8, i 26],
 m 88 90]
def c92_21 : EC := .rg c92_21l false
@[simp] theorem c92_21e : Rg c92_21 c92_21l false := rgE _ _
def c92_22 : EC := .cd (t 88) .skip c92_21
@[simp] theorem c92_22e : Cd c92_22 (t 88) .skip c92_21 := cdE _ _ _
def c92_23 : EC := .sq c92_20 c92_22
@[simp] theorem c92_23e : Sq c92_23 c92_20 c92_22 := sqE _ _
@[simp] def c92_24l : List EO := [o 91 (.faddr 1) [t 3],
 o 92 (.load 1 false) [t 91],
 o 93 (.call 116) [t 92],
 m 94 93,
 y 95 94 (.faddr 2) [t 3],
 y 96 94 (.load 1 false) [t 95],
 y 97 94 (.bin .eql) [t 96, i 0],
 o 98 .pick [t 94, t 97, b false],
 m 6 98]
def c92_24 : EC := .rg c92_24l false
@[simp] theorem c92_24e : Rg c92_24 c92_24l false := rgE _ _
def c92_25 : EC := .sq c92_24 .rt
@[simp] theorem c92_25e : Sq c92_25 c92_24 .rt := sqE _ _
def c92_26 : EC := .cd (t 88) c92_25 .skip
@[simp] theorem c92_26e : Cd c92_26 (t 88) c92_25 .skip := cdE _ _ _
def c92_27 : EC := .sq c92_23 c92_26
@[simp] theorem c92_27e : Sq c92_27 c92_23 c92_26 := sqE _ _
def c92_28 : EC := .cd (t 77) c92_19 c92_27
@[simp] theorem c92_28e : Cd c92_28 (t 77) c92_19 c92_27 := cdE _ _ _
def c92_29 : EC := .sq c92_17 c92_28
@[simp] theorem c92_29e : Sq c92_29 c92_17 c92_28 := sqE _ _
def c92_30 : EC := .cd (t 62) c92_16 c92_29
@[simp] theorem c92_30e : Cd c92_30 (t 62) c92_16 c92_29 := cdE _ _ _
def c92_31 : EC := .sq c92_14 c92_30
@[simp] theorem c92_31e : Sq c92_31 c92_14 c92_30 := sqE _ _
def c92_32 : EC := .cd (t 35) c92_13 c92_31
@[simp] theorem c92_32e : Cd c92_32 (t 35) c92_13 c92_31 := cdE _ _ _
def c92_33 : EC := .sq c92_11 c92_32
@[simp] theorem c92_33e : Sq c92_33 c92_11 c92_32 := sqE _ _
def c92_34 : EC := .cd (t 19) c92_7 c92_33
@[simp] theorem c92_34e : Cd c92_34 (t 19) c92_7 c92_33 := cdE _ _ _
def c92_35 : EC := .sq c92_5 c92_34
@[simp] theorem c92_35e : Sq c92_35 c92_5 c92_34 := sqE _ _
def c92_36 : EC := .cd (t 9) c92_4 c92_35
@[simp] theorem c92_36e : Cd c92_36 (t 9) c92_4 c92_35 := cdE _ _ _
def c92_37 : EC := .sq c92_2 c92_36
@[simp] theorem c92_37e : Sq c92_37 c92_2 c92_36 := sqE _ _
def c92_38 : EC := .bk 0 c92_37
@[simp] theorem c92_38e : Bk c92_38 0 c92_37 := bkE _ _
def c92_39 : EC := .sq c92_1 c92_38
@[simp] theorem c92_39e : Sq c92_39 c92_1 c92_38 := sqE _ _
@[simp] def c92_40l : List EO := [o 99 (.faddr 1) [t 3],
 o 100 (.load 1 false) [t 99],
 o 101 (.bin .eql) [t 100, i 0],
 m 102 101,
 y 103 102 (.faddr 2) [t 3],
 y 104 102 (.load 1 false) [t 103],
 y 105 102 (.bin .eql) [t 104, i 0],
 o 106 .pick [t 102, t 105, b false],
 m 6 106]
def c92_40 : EC := .rg c92_40l false
@[simp] theorem c92_40e : Rg c92_40 c92_40l false := rgE _ _
def c92_41 : EC := .sq c92_40 .rt
@[simp] theorem c92_41e : Sq c92_41 c92_40 .rt := sqE _ _
def c92_42 : EC := .sq c92_39 c92_41
@[simp] theorem c92_42e : Sq c92_42 c92_39 c92_41 := sqE _ _
def c92_43 : EC := .sq c92_0 c92_42
@[simp] theorem c92_43e : Sq c92_43 c92_0 c92_42 := sqE _ _
def c_compile_numbers_92 : EC := c92_43
theorem k_92 : ecF Tryd.prog 92 = some (107, c_compile_numbers_92, [.tm 6]) := by kernel_rfl

/-- tallystone/tallystoneref34.fine -/
@[simp] def c93_0l : List EO := [o 3 .box [t 0],
 o 6 .mv [b false]]
def c93_0 : EC := .rg c93_0l false
@[simp] theorem c93_0e : Rg c93_0 c93_0l false := rgE _ _
@[simp] def c93_1l : List EO := [o 7 (.faddr 0) [t 3],
 o 8 (.load 1 false) [t 7]]
def c93_1 : EC := .rg c93_1l false
@[simp] theorem c93_1e : Rg c93_1 c93_1l false := rgE _ _
@[simp] def c93_2l : List EO := [o 10 (.bin .eql) [t 8, i 1],
 m 9 10]
def c93_2 : EC := .rg c93_2l false
@[simp] theorem c93_2e : Rg c93_2 c93_2l false := rgE _ _
@[simp] def c93_3l : List EO := [o 11 (.faddr 1) [t 3],
 o 12 (.load 1 false) [t 11],
 o 13 (.call 15) [t 12],
 m 6 13]
def c93_3 : EC := .rg c93_3l false
@[simp] theorem c93_3e : Rg c93_3 c93_3l false := rgE _ _
def c93_4 : EC := .sq c93_3 .rt
@[simp] theorem c93_4e : Sq c93_4 c93_3 .rt := sqE _ _
@[simp] def c93_5l : List EO := [o 15 (.bin .eql) [t 8, i 2],
 m 14 15]
def c93_5 : EC := .rg c93_5l false
@[simp] theorem c93_5e : Rg c93_5 c93_5l false := rgE _ _
@[simp] def c93_6l : List EO := [o 16 (.faddr 1) [t 3],
 o 17 (.load 1 false) [t 16],
 o 18 (.bin .geq) [t 17, i 0],
 m 19 18,
 y 20 19 (.faddr 1) [t 3],
 y 21 19 (.load 1 false) [t 20],
 y 22 19 .mv [t 1],
 y 23 19 (.bin .lss) [t 21, t 22],
 o 24 .pick [t 19, t 23, b false],
 m 6 24]
def c93_6 : EC := .rg c93_6l false
@[simp] theorem c93_6e : Rg c93_6 c93_6l false := rgE _ _
def c93_7 : EC := .sq c93_6 .rt
@[simp] theorem c93_7e : Sq c93_7 c93_6 .rt := sqE _ _
@[simp] def c93_8l : List EO := [o 26 (.bin .eql) [t 8, i 3],
 m 25 26]
def c93_8 : EC := .rg c93_8l false
@[simp] theorem c93_8e : Rg c93_8 c93_8l false := rgE _ _
@[simp] def c93_9l : List EO := [o 27 (.bin .eql) [t 8, i 4],
 m 25 27]
def c93_9 : EC := .rg c93_9l false
@[simp] theorem c93_9e : Rg c93_9 c93_9l false := rgE _ _
def c93_10 : EC := .cd (t 25) .skip c93_9
@[simp] theorem c93_10e : Cd c93_10 (t 25) .skip c93_9 := cdE _ _ _
def c93_11 : EC := .sq c93_8 c93_10
@[simp] theorem c93_11e : Sq c93_11 c93_8 c93_10 := sqE _ _
@[simp] def c93_12l : List EO := [o 28 (.faddr 1) [t 3],
 o 29 (.load 1 false) [t 28],
 o 30 (.call 117) [t 29],
 m 31 30,
 y 32 31 (.faddr 2) [t 3],
 y 33 31 (.load 1 false) [t 32],
 y 34 31 (.call 117) [t 33],
 o 35 .pick [t 31, t 34, b false],
 m 36 35,
 y 37 36 (.faddr 1) [t 3],
 y 38 36 (.load 1 false) [t 37],
 y 39 36 (.faddr 2) [t 3],
 y 40 36 (.load 1 false) [t 39],
 y 41 36 (.bin .leq) [t 38, t 40],
 o 42 .pick [t 36, t 41, b false],
 m 43 42,
 y 44 43 .mv [t 2],
 y 45 43 .mv [t 44],
 n 46 45 (.faddr 0) [t 3],
 n 47 45 (.load 1 false) [t 46],
 n 48 45 (.bin .eql) [t 47, i 3],
 y 49 43 .pick [t 45, b true, t 48],
 o 50 .pick [t 43, t 49, b false],
 m 6 50]
def c93_12 : EC := .rg c93_12l false
@[simp] theorem c93_12e : Rg c93_12 c93_12l false := rgE _ _
def c93_13 : EC := .sq c93_12 .rt
@[simp] theorem c93_13e : Sq c93_13 c93_12 .rt := sqE _ _
@[simp] def c93_14l : List EO := [o 52 (.bin .eql) [t 8, i 9],
 m 51 52]
def c93_14 : EC := .rg c93_14l false
@[simp] theorem c93_14e : Rg c93_14 c93_14l false := rgE _ _
@[simp] def c93_15l : List EO := [o 53 (.faddr 1) [t 3],
 o 54 (.load 1 false) [t 53],
 o 55 (.bin .geq) [t 54, i 1],
 m 56 55,
 y 57 56 (.faddr 1) [t 3],
 y 58 56 (.load 1 false) [t 57],
 y 59 56 (.bin .leq) [t 58, i 1000000000000],
 o 60 .pick [t 56, t 59, b false],
 m 6 60]
def c93_15 : EC := .rg c93_15l false
@[simp] theorem c93_15e : Rg c93_15 c93_15l false := rgE _ _
def c93_16 : EC := .sq c93_15 .rt
@[simp] theorem c93_16e : Sq c93_16 c93_15 .rt := sqE _ _
@[simp] def c93_17l : List EO := [o 62 (.bin .eql) [t 8, i 23],
 m 61 62]
def c93_17 : EC := .rg c93_17l false
@[simp] theorem c93_17e : Rg c93_17 c93_17l false := rgE _ _
@[simp] def c93_18l : List EO := [o 63 (.faddr 1) [t 3],
 o 64 (.load 1 false) [t 63],
 m 65 1,
 o 66 (.bin .eql) [t 64, t 65],
 m 6 66]
def c93_18 : EC := .rg c93_18l false
@[simp] theorem c93_18e : Rg c93_18 c93_18l false := rgE _ _
def c93_19 : EC := .sq c93_18 .rt
@[simp] theorem c93_19e : Sq c93_19 c93_18 .rt := sqE _ _
@[simp] def c93_20l : List EO := [o 68 (.bin .eql) [t 8, i 25],
 m 67 68]
def c93_20 : EC := .rg c93_20l false
@[simp] theorem c93_20e : Rg c93_20 c93_20l false := rgE _ _
@[simp] def c93_21l : List EO := [o 69 (.bin .eql) [t 8, i 26],
 m 67 69]
def c93_21 : EC := .rg c93_21l false
@[simp] theorem c93_21e : Rg c93_21 c93_21l false := rgE _ _
def c93_22 : EC := .cd (t 67) .skip c93_21
@[simp] theorem c93_22e : Cd c93_22 (t 67) .skip c93_21 := cdE _ _ _
def c93_23 : EC := .sq c93_20 c93_22
@[simp] theorem c93_23e : Sq c93_23 c93_20 c93_22 := sqE _ _
@[simp] def c93_24l : List EO := [o 70 (.faddr 1) [t 3],
 o 71 (.load 1 false) [t 70],
 o 72 (.call 117) [t 71],
 m 6 72]
def c93_24 : EC := .rg c93_24l false
@[simp] theorem c93_24e : Rg c93_24 c93_24l false := rgE _ _
def c93_25 : EC := .sq c93_24 .rt
@[simp] theorem c93_25e : Sq c93_25 c93_24 .rt := sqE _ _
def c93_26 : EC := .cd (t 67) c93_25 .skip
@[simp] theorem c93_26e : Cd c93_26 (t 67) c93_25 .skip := cdE _ _ _
def c93_27 : EC := .sq c93_23 c93_26
@[simp] theorem c93_27e : Sq c93_27 c93_23 c93_26 := sqE _ _
def c93_28 : EC := .cd (t 61) c93_19 c93_27
@[simp] theorem c93_28e : Cd c93_28 (t 61) c93_19 c93_27 := cdE _ _ _
def c93_29 : EC := .sq c93_17 c93_28
@[simp] theorem c93_29e : Sq c93_29 c93_17 c93_28 := sqE _ _
def c93_30 : EC := .cd (t 51) c93_16 c93_29
@[simp] theorem c93_30e : Cd c93_30 (t 51) c93_16 c93_29 := cdE _ _ _
def c93_31 : EC := .sq c93_14 c93_30
@[simp] theorem c93_31e : Sq c93_31 c93_14 c93_30 := sqE _ _
def c93_32 : EC := .cd (t 25) c93_13 c93_31
@[simp] theorem c93_32e : Cd c93_32 (t 25) c93_13 c93_31 := cdE _ _ _
def c93_33 : EC := .sq c93_11 c93_32
@[simp] theorem c93_33e : Sq c93_33 c93_11 c93_32 := sqE _ _
def c93_34 : EC := .cd (t 14) c93_7 c93_33
@[simp] theorem c93_34e : Cd c93_34 (t 14) c93_7 c93_33 := cdE _ _ _
def c93_35 : EC := .sq c93_5 c93_34
@[simp] theorem c93_35e : Sq c93_35 c93_5 c93_34 := sqE _ _
def c93_36 : EC := .cd (t 9) c93_4 c93_35
@[simp] theorem c93_36e : Cd c93_36 (t 9) c93_4 c93_35 := cdE _ _ _
def c93_37 : EC := .sq c93_2 c93_36
@[simp] theorem c93_37e : Sq c93_37 c93_2 c93_36 := sqE _ _
def c93_38 : EC := .bk 0 c93_37
@[simp] theorem c93_38e : Bk c93_38 0 c93_37 := bkE _ _
def c93_39 : EC := .sq c93_1 c93_38
@[simp] theorem c93_39e : Sq c93_39 c93_1 c93_38 := sqE _ _
@[simp] def c93_40l : List EO := [o 73 (.faddr 1) [t 3],
 o 74 (.load 1 false) [t 73],
 o 75 (.bin .eql) [t 74, i 0],
 m 6 75]
def c93_40 : EC := .rg c93_40l false
@[simp] theorem c93_40e : Rg c93_40 c93_40l false := rgE _ _
def c93_41 : EC := .sq c93_40 .rt
@[simp] theorem c93_41e : Sq c93_41 c93_40 .rt := sqE _ _
def c93_42 : EC := .sq c93_39 c93_41
@[simp] theorem c93_42e : Sq c93_42 c93_39 c93_41 := sqE _ _
def c93_43 : EC := .sq c93_0 c93_42
@[simp] theorem c93_43e : Sq c93_43 c93_0 c93_42 := sqE _ _
def c_tallystoneref34_fine_93 : EC := c93_43
theorem k_93 : ecF Tryd.prog 93 = some (76, c_tallystoneref34_fine_93, [.tm 6]) := by kernel_rfl

/-- slices.IndexFunc[[]tallystone/compile.Ins,tallystone/compile.Ins] -/
@[simp] def c94_0l : List EO := [o 4 .mv [i 0]]
def c94_0 : EC := .rg c94_0l false
@[simp] theorem c94_0e : Rg c94_0 c94_0l false := rgE _ _
@[simp] def c94_1l : List EO := [m 6 0,
 o 7 .lenL [t 6],
 o 8 .mv [i 0]]
def c94_1 : EC := .rg c94_1l false
@[simp] theorem c94_1e : Rg c94_1 c94_1l false := rgE _ _
@[simp] def c94_2l : List EO := [o 9 (.bin .lss) [t 8, t 7]]
def c94_2 : EC := .rg c94_2l false
@[simp] theorem c94_2e : Rg c94_2 c94_2l false := rgE _ _
def c94_3 : EC := .cd (t 9) .skip (.ex 0)
@[simp] theorem c94_3e : Cd c94_3 (t 9) .skip (.ex 0) := cdE _ _ _
@[simp] def c94_4l : List EO := [m 10 8,
 m 5 10]
def c94_4 : EC := .rg c94_4l false
@[simp] theorem c94_4e : Rg c94_4 c94_4l false := rgE _ _
@[simp] def c94_5l : List EO := [m 11 1,
 m 12 0,
 m 13 5,
 o 14 (.iaS 3) [t 12, t 13],
 o 15 (.load 3 true) [t 14],
 o 16 .callv [t 11, t 15]]
def c94_5 : EC := .rg c94_5l false
@[simp] theorem c94_5e : Rg c94_5 c94_5l false := rgE _ _
@[simp] def c94_6l : List EO := [m 17 5,
 m 4 17]
def c94_6 : EC := .rg c94_6l false
@[simp] theorem c94_6e : Rg c94_6 c94_6l false := rgE _ _
def c94_7 : EC := .sq c94_6 .rt
@[simp] theorem c94_7e : Sq c94_7 c94_6 .rt := sqE _ _
def c94_8 : EC := .cd (t 16) c94_7 .skip
@[simp] theorem c94_8e : Cd c94_8 (t 16) c94_7 .skip := cdE _ _ _
def c94_9 : EC := .sq c94_5 c94_8
@[simp] theorem c94_9e : Sq c94_9 c94_5 c94_8 := sqE _ _
def c94_10 : EC := .sq c94_4 c94_9
@[simp] theorem c94_10e : Sq c94_10 c94_4 c94_9 := sqE _ _
def c94_11 : EC := .bk 1 c94_10
@[simp] theorem c94_11e : Bk c94_11 1 c94_10 := bkE _ _
@[simp] def c94_12l : List EO := [o 18 (.bin .add) [t 8, i 1],
 m 8 18]
def c94_12 : EC := .rg c94_12l false
@[simp] theorem c94_12e : Rg c94_12 c94_12l false := rgE _ _
def c94_13 : EC := .sq c94_11 c94_12
@[simp] theorem c94_13e : Sq c94_13 c94_11 c94_12 := sqE _ _
def c94_14 : EC := .sq c94_3 c94_13
@[simp] theorem c94_14e : Sq c94_14 c94_3 c94_13 := sqE _ _
def c94_15 : EC := .sq c94_2 c94_14
@[simp] theorem c94_15e : Sq c94_15 c94_2 c94_14 := sqE _ _
def c94_16 : EC := .bk 0 (.lp c94_15)
@[simp] theorem c94_16e : Bk c94_16 0 (.lp c94_15) := bkE _ _
def c94_17 : EC := .sq c94_1 c94_16
@[simp] theorem c94_17e : Sq c94_17 c94_1 c94_16 := sqE _ _
@[simp] def c94_18l : List EO := [o 4 .mv [i (-1)]]
def c94_18 : EC := .rg c94_18l false
@[simp] theorem c94_18e : Rg c94_18 c94_18l false := rgE _ _
def c94_19 : EC := .sq c94_18 .rt
@[simp] theorem c94_19e : Sq c94_19 c94_18 .rt := sqE _ _
def c94_20 : EC := .sq c94_17 c94_19
@[simp] theorem c94_20e : Sq c94_20 c94_17 c94_19 := sqE _ _
def c94_21 : EC := .sq c94_0 c94_20
@[simp] theorem c94_21e : Sq c94_21 c94_0 c94_20 := sqE _ _
def c_compile_Ins__94 : EC := c94_21
theorem k_94 : ecF Tryd.prog 94 = some (19, c_compile_Ins__94, [.tm 4]) := by kernel_rfl

/-- tallystone/compile.account -/
@[simp] def c116_0l : List EO := [o 2 .mv [b false]]
def c116_0 : EC := .rg c116_0l false
@[simp] theorem c116_0e : Rg c116_0 c116_0l false := rgE _ _
@[simp] def c116_1l : List EO := [m 3 0,
 o 4 (.bin .geq) [t 3, i 1],
 m 5 4,
 y 6 5 .mv [t 0],
 y 7 5 (.bin .leq) [t 6, i 99999],
 o 8 .pick [t 5, t 7, b false],
 m 2 8]
def c116_1 : EC := .rg c116_1l false
@[simp] theorem c116_1e : Rg c116_1 c116_1l false := rgE _ _
def c116_2 : EC := .sq c116_1 .rt
@[simp] theorem c116_2e : Sq c116_2 c116_1 .rt := sqE _ _
def c116_3 : EC := .sq c116_0 c116_2
@[simp] theorem c116_3e : Sq c116_3 c116_0 c116_2 := sqE _ _
def c_compile_account_116 : EC := c116_3
theorem k_116 : ecF Tryd.prog 116 = some (9, c_compile_account_116, [.tm 2]) := by kernel_rfl

/-- tallystone/tallystoneref34.account -/
@[simp] def c117_0l : List EO := [o 2 .mv [b false]]
def c117_0 : EC := .rg c117_0l false
@[simp] theorem c117_0e : Rg c117_0 c117_0l false := rgE _ _
@[simp] def c117_1l : List EO := [m 3 0,
 o 4 (.bin .geq) [t 3, i 1],
 m 5 4,
 y 6 5 .mv [t 0],
 y 7 5 (.bin .leq) [t 6, i 99999],
 o 8 .pick [t 5, t 7, b false],
 m 2 8]
def c117_1 : EC := .rg c117_1l false
@[simp] theorem c117_1e : Rg c117_1 c117_1l false := rgE _ _
def c117_2 : EC := .sq c117_1 .rt
@[simp] theorem c117_2e : Sq c117_2 c117_1 .rt := sqE _ _
def c117_3 : EC := .sq c117_0 c117_2
@[simp] theorem c117_3e : Sq c117_3 c117_0 c117_2 := sqE _ _
def c_tallystoneref34_account_117 : EC := c117_3
theorem k_117 : ecF Tryd.prog 117 = some (9, c_tallystoneref34_account_117, [.tm 2]) := by kernel_rfl
end Go.Proofs.YtkapabohpfkcoaaDoor
