/- The code of the functions of this seat, as the engine reads it; printed by program out of the translation, checked by the kernel. -/
import Derived.Test.YtkapabohpfkcoaaDoorEd
import Derived.Test.YtkapabohpfkcoaaDoorProg
set_option linter.unusedSimpArgs false
set_option linter.unusedVariables false
namespace Go.Proofs.YtkapabohpfkcoaaDoor
open Go.Proofs E E.Z
variable {P : Program} {nb nt : Nat} {Q : Ex → Fr → St → Prop} {a : Fr} {S : St}
/-- slices.breakPatternsOrdered[int] -/
@[simp] def c125_0l : List EO := [m 11 2,
 m 12 1,
 o 13 (.bin .sub) [t 11, t 12],
 m 6 13]
def c125_0 : EC := .rg c125_0l false
@[simp] theorem c125_0e : Rg c125_0 c125_0l false := rgE _ _
@[simp] def c125_1l : List EO := [m 14 6,
 o 15 (.bin .geq) [t 14, i 8]]
def c125_1 : EC := .rg c125_1l false
@[simp] theorem c125_1e : Rg c125_1 c125_1l false := rgE _ _
@[simp] def c125_2l : List EO := [m 16 6,
 o 17 (.cvI .u64) [t 16],
 o 7 (.alloc [.t (.int .u64 0)]) [],
 u (.store 1) [t 7, t 17]]
def c125_2 : EC := .rg c125_2l false
@[simp] theorem c125_2e : Rg c125_2 c125_2l false := rgE _ _
@[simp] def c125_3l : List EO := [m 18 6,
 o 19 (.call 145) [t 18],
 m 8 19]
def c125_3 : EC := .rg c125_3l false
@[simp] theorem c125_3e : Rg c125_3 c125_3l false := rgE _ _
@[simp] def c125_4l : List EO := [m 20 1,
 m 21 6,
 o 22 (.bin .quo) [t 21, i 4],
 o 23 (.bin .mul) [t 22, i 2],
 o 24 (.bin .add) [t 20, t 23],
 o 25 (.bin .sub) [t 24, i 1],
 m 9 25]
def c125_4 : EC := .rg c125_4l false
@[simp] theorem c125_4e : Rg c125_4 c125_4l false := rgE _ _
@[simp] def c125_5l : List EO := [m 26 9,
 m 27 1,
 m 28 6,
 o 29 (.bin .quo) [t 28, i 4],
 o 30 (.bin .mul) [t 29, i 2],
 o 31 (.bin .add) [t 27, t 30],
 o 32 (.bin .add) [t 31, i 1],
 o 33 (.bin .leq) [t 26, t 32]]
def c125_5 : EC := .rg c125_5l false
@[simp] theorem c125_5e : Rg c125_5 c125_5l false := rgE _ _
def c125_6 : EC := .cd (t 33) .skip (.ex 0)
@[simp] theorem c125_6e : Cd c125_6 (t 33) .skip (.ex 0) := cdE _ _ _
def c125_7 : EC := .sq c125_5 c125_6
@[simp] theorem c125_7e : Sq c125_7 c125_5 c125_6 := sqE _ _
@[simp] def c125_8l : List EO := [o 36 (.call 146) [t 7],
 m 37 8,
 o 38 (.bin .sub) [t 37, c (.t (.int .u64 1))],
 o 39 (.bin .and) [t 36, t 38],
 o 40 (.cvI .i64) [t 39],
 m 10 40]
def c125_8 : EC := .rg c125_8l false
@[simp] theorem c125_8e : Rg c125_8 c125_8l false := rgE _ _
@[simp] def c125_9l : List EO := [m 41 10,
 m 42 6,
 o 43 (.bin .geq) [t 41, t 42]]
def c125_9 : EC := .rg c125_9l false
@[simp] theorem c125_9e : Rg c125_9 c125_9l false := rgE _ _
@[simp] def c125_10l : List EO := [m 44 10,
 m 45 6,
 o 46 (.bin .sub) [t 44, t 45],
 m 10 46]
def c125_10 : EC := .rg c125_10l false
@[simp] theorem c125_10e : Rg c125_10 c125_10l false := rgE _ _
def c125_11 : EC := .cd (t 43) c125_10 .skip
@[simp] theorem c125_11e : Cd c125_11 (t 43) c125_10 .skip := cdE _ _ _
def c125_12 : EC := .sq c125_9 c125_11
@[simp] theorem c125_12e : Sq c125_12 c125_9 c125_11 := sqE _ _
@[simp] def c125_13l : List EO := [m 47 0,
 m 48 9,
 m 49 0,
 m 50 1,
 m 51 10,
 o 52 (.bin .add) [t 50, t 51],
 m 53 0,
 m 54 1,
 m 55 10,
 o 56 (.bin .add) [t 54, t 55],
 o 57 (.iaS 1) [t 53, t 56],
 o 58 (.load 1 false) [t 57],
 m 59 0,
 m 60 9,
 o 61 (.iaS 1) [t 59, t 60],
 o 62 (.load 1 false) [t 61],
 o 63 (.iaS 1) [t 47, t 48],
 u (.store 1) [t 63, t 58],
 o 64 (.iaS 1) [t 49, t 52],
 u (.store 1) [t 64, t 62]]
def c125_13 : EC := .rg c125_13l true
@[simp] theorem c125_13e : Rg c125_13 c125_13l true := rgE _ _
def c125_14 : EC := .sq c125_12 c125_13
@[simp] theorem c125_14e : Sq c125_14 c125_12 c125_13 := sqE _ _
def c125_15 : EC := .sq c125_8 c125_14
@[simp] theorem c125_15e : Sq c125_15 c125_8 c125_14 := sqE _ _
def c125_16 : EC := .bk 1 c125_15
@[simp] theorem c125_16e : Bk c125_16 1 c125_15 := bkE _ _
@[simp] def c125_17l : List EO := [m 34 9,
 o 35 (.bin .add) [t 34, i 1],
 m 9 35]
def c125_17 : EC := .rg c125_17l false
@[simp] theorem c125_17e : Rg c125_17 c125_17l false := rgE _ _
def c125_18 : EC := .sq c125_16 c125_17
@[simp] theorem c125_18e : Sq c125_18 c125_16 c125_17 := sqE _ _
def c125_19 : EC := .sq c125_7 c125_18
@[simp] theorem c125_19e : Sq c125_19 c125_7 c125_18 := sqE _ _
def c125_20 : EC := .bk 0 (.lp c125_19)
@[simp] theorem c125_20e : Bk c125_20 0 (.lp c125_19) := bkE _ _
def c125_21 : EC := .sq c125_4 c125_20
@[simp] theorem c125_21e : Sq c125_21 c125_4 c125_20 := sqE _ _
def c125_22 : EC := .sq c125_3 c125_21
@[simp] theorem c125_22e : Sq c125_22 c125_3 c125_21 := sqE _ _
def c125_23 : EC := .sq c125_2 c125_22
@[simp] theorem c125_23e : Sq c125_23 c125_2 c125_22 := sqE _ _
def c125_24 : EC := .cd (t 15) c125_23 .skip
@[simp] theorem c125_24e : Cd c125_24 (t 15) c125_23 .skip := cdE _ _ _
def c125_25 : EC := .sq c125_1 c125_24
@[simp] theorem c125_25e : Sq c125_25 c125_1 c125_24 := sqE _ _
def c125_26 : EC := .sq c125_0 c125_25
@[simp] theorem c125_26e : Sq c125_26 c125_0 c125_25 := sqE _ _
def c_slices_breakPatternsOrdered_int__125 : EC := c125_26
theorem k_125 : ecF Tryd.prog 125 = some (65, c_slices_breakPatternsOrdered_int__125, []) := by kernel_rfl

/-- slices.choosePivotOrdered[int] -/
@[simp] def c126_0l : List EO := [o 6 .mv [i 0],
 o 7 .mv [i 0]]
def c126_0 : EC := .rg c126_0l false
@[simp] theorem c126_0e : Rg c126_0 c126_0l false := rgE _ _
@[simp] def c126_1l : List EO := [m 13 2,
 m 14 1,
 o 15 (.bin .sub) [t 13, t 14],
 m 8 15]
def c126_1 : EC := .rg c126_1l false
@[simp] theorem c126_1e : Rg c126_1 c126_1l false := rgE _ _
@[simp] def c126_2l : List EO := [o 9 (.alloc [.t (.int .i64 0)]) []]
def c126_2 : EC := .rg c126_2l false
@[simp] theorem c126_2e : Rg c126_2 c126_2l false := rgE _ _
@[simp] def c126_3l : List EO := [m 16 1,
 m 17 8,
 o 18 (.bin .quo) [t 17, i 4],
 o 19 (.bin .mul) [t 18, i 1],
 o 20 (.bin .add) [t 16, t 19],
 m 10 20]
def c126_3 : EC := .rg c126_3l false
@[simp] theorem c126_3e : Rg c126_3 c126_3l false := rgE _ _
@[simp] def c126_4l : List EO := [m 21 1,
 m 22 8,
 o 23 (.bin .quo) [t 22, i 4],
 o 24 (.bin .mul) [t 23, i 2],
 o 25 (.bin .add) [t 21, t 24],
 m 11 25]
def c126_4 : EC := .rg c126_4l false
@[simp] theorem c126_4e : Rg c126_4 c126_4l false := rgE _ _
@[simp] def c126_5l : List EO := [m 26 1,
 m 27 8,
 o 28 (.bin .quo) [t 27, i 4],
 o 29 (.bin .mul) [t 28, i 3],
 o 30 (.bin .add) [t 26, t 29],
 m 12 30]
def c126_5 : EC := .rg c126_5l false
@[simp] theorem c126_5e : Rg c126_5 c126_5l false := rgE _ _
@[simp] def c126_6l : List EO := [m 31 8,
 o 32 (.bin .geq) [t 31, i 8]]
def c126_6 : EC := .rg c126_6l false
@[simp] theorem c126_6e : Rg c126_6 c126_6l false := rgE _ _
@[simp] def c126_7l : List EO := [m 33 8,
 o 34 (.bin .geq) [t 33, i 50]]
def c126_7 : EC := .rg c126_7l false
@[simp] theorem c126_7e : Rg c126_7 c126_7l false := rgE _ _
@[simp] def c126_8l : List EO := [m 35 0,
 m 36 10,
 o 37 (.call 147) [t 35, t 36, t 9],
 m 10 37]
def c126_8 : EC := .rg c126_8l false
@[simp] theorem c126_8e : Rg c126_8 c126_8l false := rgE _ _
@[simp] def c126_9l : List EO := [m 38 0,
 m 39 11,
 o 40 (.call 147) [t 38, t 39, t 9],
 m 11 40]
def c126_9 : EC := .rg c126_9l false
@[simp] theorem c126_9e : Rg c126_9 c126_9l false := rgE _ _
@[simp] def c126_10l : List EO := [m 41 0,
 m 42 12,
 o 43 (.call 147) [t 41, t 42, t 9],
 m 12 43]
def c126_10 : EC := .rg c126_10l false
@[simp] theorem c126_10e : Rg c126_10 c126_10l false := rgE _ _
def c126_11 : EC := .sq c126_9 c126_10
@[simp] theorem c126_11e : Sq c126_11 c126_9 c126_10 := sqE _ _
def c126_12 : EC := .sq c126_8 c126_11
@[simp] theorem c126_12e : Sq c126_12 c126_8 c126_11 := sqE _ _
def c126_13 : EC := .cd (t 34) c126_12 .skip
@[simp] theorem c126_13e : Cd c126_13 (t 34) c126_12 .skip := cdE _ _ _
def c126_14 : EC := .sq c126_7 c126_13
@[simp] theorem c126_14e : Sq c126_14 c126_7 c126_13 := sqE _ _
@[simp] def c126_15l : List EO := [m 44 0,
 m 45 10,
 m 46 11,
 m 47 12,
 o 48 (.call 148) [t 44, t 45, t 46, t 47, t 9],
 m 11 48]
def c126_15 : EC := .rg c126_15l false
@[simp] theorem c126_15e : Rg c126_15 c126_15l false := rgE _ _
def c126_16 : EC := .sq c126_14 c126_15
@[simp] theorem c126_16e : Sq c126_16 c126_14 c126_15 := sqE _ _
def c126_17 : EC := .cd (t 32) c126_16 .skip
@[simp] theorem c126_17e : Cd c126_17 (t 32) c126_16 .skip := cdE _ _ _
def c126_18 : EC := .sq c126_6 c126_17
@[simp] theorem c126_18e : Sq c126_18 c126_6 c126_17 := sqE _ _
@[simp] def c126_19l : List EO := [o 49 (.load 1 false) [t 9]]
def c126_19 : EC := .rg c126_19l false
@[simp] theorem c126_19e : Rg c126_19 c126_19l false := rgE _ _
@[simp] def c126_20l : List EO := [o 52 (.bin .eql) [t 49, i 0],
 m 51 52]
def c126_20 : EC := .rg c126_20l false
@[simp] theorem c126_20e : Rg c126_20 c126_20l false := rgE _ _
@[simp] def c126_21l : List EO := [m 53 11,
 m 6 53,
 o 7 .mv [i 1]]
def c126_21 : EC := .rg c126_21l false
@[simp] theorem c126_21e : Rg c126_21 c126_21l false := rgE _ _
def c126_22 : EC := .sq c126_21 .rt
@[simp] theorem c126_22e : Sq c126_22 c126_21 .rt := sqE _ _
@[simp] def c126_23l : List EO := [o 55 (.bin .eql) [t 49, i 12],
 m 54 55]
def c126_23 : EC := .rg c126_23l false
@[simp] theorem c126_23e : Rg c126_23 c126_23l false := rgE _ _
@[simp] def c126_24l : List EO := [m 56 11,
 m 6 56,
 o 7 .mv [i 2]]
def c126_24 : EC := .rg c126_24l false
@[simp] theorem c126_24e : Rg c126_24 c126_24l false := rgE _ _
def c126_25 : EC := .sq c126_24 .rt
@[simp] theorem c126_25e : Sq c126_25 c126_24 .rt := sqE _ _
@[simp] def c126_26l : List EO := [m 50 11,
 m 6 50,
 o 7 .mv [i 0]]
def c126_26 : EC := .rg c126_26l false
@[simp] theorem c126_26e : Rg c126_26 c126_26l false := rgE _ _
def c126_27 : EC := .sq c126_26 .rt
@[simp] theorem c126_27e : Sq c126_27 c126_26 .rt := sqE _ _
def c126_28 : EC := .cd (t 54) c126_25 c126_27
@[simp] theorem c126_28e : Cd c126_28 (t 54) c126_25 c126_27 := cdE _ _ _
def c126_29 : EC := .sq c126_23 c126_28
@[simp] theorem c126_29e : Sq c126_29 c126_23 c126_28 := sqE _ _
def c126_30 : EC := .cd (t 51) c126_22 c126_29
@[simp] theorem c126_30e : Cd c126_30 (t 51) c126_22 c126_29 := cdE _ _ _
def c126_31 : EC := .sq c126_20 c126_30
@[simp] theorem c126_31e : Sq c126_31 c126_20 c126_30 := sqE _ _
def c126_32 : EC := .bk 0 c126_31
@[simp] theorem c126_32e : Bk c126_32 0 c126_31 := bkE _ _
def c126_33 : EC := .sq c126_19 c126_32
@[simp] theorem c126_33e : Sq c126_33 c126_19 c126_32 := sqE _ _
def c126_34 : EC := .sq c126_18 c126_33
@[simp] theorem c126_34e : Sq c126_34 c126_18 c126_33 := sqE _ _
def c126_35 : EC := .sq c126_5 c126_34
@[simp] theorem c126_35e : Sq c126_35 c126_5 c126_34 := sqE _ _
def c126_36 : EC := .sq c126_4 c126_35
@[simp] theorem c126_36e : Sq c126_36 c126_4 c126_35 := sqE _ _
def c126_37 : EC := .sq c126_3 c126_36
@[simp] theorem c126_37e : Sq c126_37 c126_3 c126_36 := sqE _ _
def c126_38 : EC := .sq c126_2 c126_37
@[simp] theorem c126_38e : Sq c126_38 c126_2 c126_37 := sqE _ _
def c126_39 : EC := .sq c126_1 c126_38
@[simp] theorem c126_39e : Sq c126_39 c126_1 c126_38 := sqE _ _
def c126_40 : EC := .sq c126_0 c126_39
@[simp] theorem c126_40e : Sq c126_40 c126_0 c126_39 := sqE _ _
def c_slices_choosePivotOrdered_int__126 : EC := c126_40
theorem k_126 : ecF Tryd.prog 126 = some (57, c_slices_choosePivotOrdered_int__126, [.tm 6, .tm 7]) := by kernel_rfl

/-- slices.reverseRangeOrdered[int] -/
@[simp] def c127_0l : List EO := [m 8 1,
 m 6 8]
def c127_0 : EC := .rg c127_0l false
@[simp] theorem c127_0e : Rg c127_0 c127_0l false := rgE _ _
@[simp] def c127_1l : List EO := [m 9 2,
 o 10 (.bin .sub) [t 9, i 1],
 m 7 10]
def c127_1 : EC := .rg c127_1l false
@[simp] theorem c127_1e : Rg c127_1 c127_1l false := rgE _ _
@[simp] def c127_2l : List EO := [m 11 6,
 m 12 7,
 o 13 (.bin .lss) [t 11, t 12]]
def c127_2 : EC := .rg c127_2l false
@[simp] theorem c127_2e : Rg c127_2 c127_2l false := rgE _ _
def c127_3 : EC := .cd (t 13) .skip (.ex 0)
@[simp] theorem c127_3e : Cd c127_3 (t 13) .skip (.ex 0) := cdE _ _ _
def c127_4 : EC := .sq c127_2 c127_3
@[simp] theorem c127_4e : Sq c127_4 c127_2 c127_3 := sqE _ _
@[simp] def c127_5l : List EO := [m 14 0,
 m 15 6,
 m 16 0,
 m 17 7,
 m 18 0,
 m 19 7,
 o 20 (.iaS 1) [t 18, t 19],
 o 21 (.load 1 false) [t 20],
 m 22 0,
 m 23 6,
 o 24 (.iaS 1) [t 22, t 23],
 o 25 (.load 1 false) [t 24],
 o 26 (.iaS 1) [t 14, t 15],
 u (.store 1) [t 26, t 21],
 o 27 (.iaS 1) [t 16, t 17],
 u (.store 1) [t 27, t 25]]
def c127_5 : EC := .rg c127_5l true
@[simp] theorem c127_5e : Rg c127_5 c127_5l true := rgE _ _
@[simp] def c127_6l : List EO := [m 28 6,
 o 29 (.bin .add) [t 28, i 1],
 m 6 29]
def c127_6 : EC := .rg c127_6l false
@[simp] theorem c127_6e : Rg c127_6 c127_6l false := rgE _ _
@[simp] def c127_7l : List EO := [m 30 7,
 o 31 (.bin .sub) [t 30, i 1],
 m 7 31]
def c127_7 : EC := .rg c127_7l false
@[simp] theorem c127_7e : Rg c127_7 c127_7l false := rgE _ _
def c127_8 : EC := .sq c127_6 c127_7
@[simp] theorem c127_8e : Sq c127_8 c127_6 c127_7 := sqE _ _
def c127_9 : EC := .sq c127_5 c127_8
@[simp] theorem c127_9e : Sq c127_9 c127_5 c127_8 := sqE _ _
def c127_10 : EC := .bk 1 c127_9
@[simp] theorem c127_10e : Bk c127_10 1 c127_9 := bkE _ _
def c127_11 : EC := .sq c127_4 c127_10
@[simp] theorem c127_11e : Sq c127_11 c127_4 c127_10 := sqE _ _
def c127_12 : EC := .bk 0 (.lp c127_11)
@[simp] theorem c127_12e : Bk c127_12 0 (.lp c127_11) := bkE _ _
def c127_13 : EC := .sq c127_1 c127_12
@[simp] theorem c127_13e : Sq c127_13 c127_1 c127_12 := sqE _ _
def c127_14 : EC := .sq c127_0 c127_13
@[simp] theorem c127_14e : Sq c127_14 c127_0 c127_13 := sqE _ _
def c_slices_reverseRangeOrdered_int__127 : EC := c127_14
theorem k_127 : ecF Tryd.prog 127 = some (32, c_slices_reverseRangeOrdered_int__127, []) := by kernel_rfl

/-- slices.partialInsertionSortOrdered[int] -/
@[simp] def c128_0l : List EO := [o 6 .mv [b false]]
def c128_0 : EC := .rg c128_0l false
@[simp] theorem c128_0e : Rg c128_0 c128_0l false := rgE _ _
@[simp] def c128_1l : List EO := [m 11 1,
 o 12 (.bin .add) [t 11, i 1],
 m 7 12]
def c128_1 : EC := .rg c128_1l false
@[simp] theorem c128_1e : Rg c128_1 c128_1l false := rgE _ _
@[simp] def c128_2l : List EO := [o 8 .mv [i 0]]
def c128_2 : EC := .rg c128_2l false
@[simp] theorem c128_2e : Rg c128_2 c128_2l false := rgE _ _
@[simp] def c128_3l : List EO := [m 13 8,
 o 14 (.bin .lss) [t 13, i 5]]
def c128_3 : EC := .rg c128_3l false
@[simp] theorem c128_3e : Rg c128_3 c128_3l false := rgE _ _
def c128_4 : EC := .cd (t 14) .skip (.ex 0)
@[simp] theorem c128_4e : Cd c128_4 (t 14) .skip (.ex 0) := cdE _ _ _
def c128_5 : EC := .sq c128_3 c128_4
@[simp] theorem c128_5e : Sq c128_5 c128_3 c128_4 := sqE _ _
@[simp] def c128_6l : List EO := [m 17 7,
 m 18 2,
 o 19 (.bin .lss) [t 17, t 18],
 m 20 19,
 y 21 20 .mv [t 0],
 y 22 20 .mv [t 7],
 y 23 20 (.iaS 1) [t 21, t 22],
 y 24 20 (.load 1 false) [t 23],
 y 25 20 .mv [t 0],
 y 26 20 .mv [t 7],
 y 27 20 (.bin .sub) [t 26, i 1],
 y 28 20 (.iaS 1) [t 25, t 27],
 y 29 20 (.load 1 false) [t 28],
 y 30 20 (.call 129) [t 24, t 29],
 y 31 20 (.un .not) [t 30],
 o 32 .pick [t 20, t 31, b false]]
def c128_6 : EC := .rg c128_6l true
@[simp] theorem c128_6e : Rg c128_6 c128_6l true := rgE _ _
def c128_7 : EC := .cd (t 32) .skip (.ex 2)
@[simp] theorem c128_7e : Cd c128_7 (t 32) .skip (.ex 2) := cdE _ _ _
def c128_8 : EC := .sq c128_6 c128_7
@[simp] theorem c128_8e : Sq c128_8 c128_6 c128_7 := sqE _ _
@[simp] def c128_9l : List EO := [m 33 7,
 o 34 (.bin .add) [t 33, i 1],
 m 7 34]
def c128_9 : EC := .rg c128_9l false
@[simp] theorem c128_9e : Rg c128_9 c128_9l false := rgE _ _
def c128_10 : EC := .bk 3 c128_9
@[simp] theorem c128_10e : Bk c128_10 3 c128_9 := bkE _ _
def c128_11 : EC := .sq c128_8 c128_10
@[simp] theorem c128_11e : Sq c128_11 c128_8 c128_10 := sqE _ _
def c128_12 : EC := .bk 2 (.lp c128_11)
@[simp] theorem c128_12e : Bk c128_12 2 (.lp c128_11) := bkE _ _
@[simp] def c128_13l : List EO := [m 35 7,
 m 36 2,
 o 37 (.bin .eql) [t 35, t 36]]
def c128_13 : EC := .rg c128_13l false
@[simp] theorem c128_13e : Rg c128_13 c128_13l false := rgE _ _
@[simp] def c128_14l : List EO := [o 6 .mv [b true]]
def c128_14 : EC := .rg c128_14l false
@[simp] theorem c128_14e : Rg c128_14 c128_14l false := rgE _ _
def c128_15 : EC := .sq c128_14 .rt
@[simp] theorem c128_15e : Sq c128_15 c128_14 .rt := sqE _ _
def c128_16 : EC := .cd (t 37) c128_15 .skip
@[simp] theorem c128_16e : Cd c128_16 (t 37) c128_15 .skip := cdE _ _ _
def c128_17 : EC := .sq c128_13 c128_16
@[simp] theorem c128_17e : Sq c128_17 c128_13 c128_16 := sqE _ _
@[simp] def c128_18l : List EO := [m 38 2,
 m 39 1,
 o 40 (.bin .sub) [t 38, t 39],
 o 41 (.bin .lss) [t 40, i 50]]
def c128_18 : EC := .rg c128_18l false
@[simp] theorem c128_18e : Rg c128_18 c128_18l false := rgE _ _
@[simp] def c128_19l : List EO := [o 6 .mv [b false]]
def c128_19 : EC := .rg c128_19l false
@[simp] theorem c128_19e : Rg c128_19 c128_19l false := rgE _ _
def c128_20 : EC := .sq c128_19 .rt
@[simp] theorem c128_20e : Sq c128_20 c128_19 .rt := sqE _ _
def c128_21 : EC := .cd (t 41) c128_20 .skip
@[simp] theorem c128_21e : Cd c128_21 (t 41) c128_20 .skip := cdE _ _ _
def c128_22 : EC := .sq c128_18 c128_21
@[simp] theorem c128_22e : Sq c128_22 c128_18 c128_21 := sqE _ _
@[simp] def c128_23l : List EO := [m 42 0,
 m 43 7,
 m 44 0,
 m 45 7,
 o 46 (.bin .sub) [t 45, i 1],
 m 47 0,
 m 48 7,
 o 49 (.bin .sub) [t 48, i 1],
 o 50 (.iaS 1) [t 47, t 49],
 o 51 (.load 1 false) [t 50],
 m 52 0,
 m 53 7,
 o 54 (.iaS 1) [t 52, t 53],
 o 55 (.load 1 false) [t 54],
 o 56 (.iaS 1) [t 42, t 43],
 u (.store 1) [t 56, t 51],
 o 57 (.iaS 1) [t 44, t 46],
 u (.store 1) [t 57, t 55]]
def c128_23 : EC := .rg c128_23l true
@[simp] theorem c128_23e : Rg c128_23 c128_23l true := rgE _ _
@[simp] def c128_24l : List EO := [m 58 7,
 m 59 1,
 o 60 (.bin .sub) [t 58, t 59],
 o 61 (.bin .geq) [t 60, i 2]]
def c128_24 : EC := .rg c128_24l false
@[simp] theorem c128_24e : Rg c128_24 c128_24l false := rgE _ _
@[simp] def c128_25l : List EO := [m 62 7,
 o 63 (.bin .sub) [t 62, i 1],
 m 9 63]
def c128_25 : EC := .rg c128_25l false
@[simp] theorem c128_25e : Rg c128_25 c128_25l false := rgE _ _
@[simp] def c128_26l : List EO := [m 64 9,
 o 65 (.bin .geq) [t 64, i 1]]
def c128_26 : EC := .rg c128_26l false
@[simp] theorem c128_26e : Rg c128_26 c128_26l false := rgE _ _
def c128_27 : EC := .cd (t 65) .skip (.ex 4)
@[simp] theorem c128_27e : Cd c128_27 (t 65) .skip (.ex 4) := cdE _ _ _
def c128_28 : EC := .sq c128_26 c128_27
@[simp] theorem c128_28e : Sq c128_28 c128_26 c128_27 := sqE _ _
@[simp] def c128_29l : List EO := [m 68 0,
 m 69 9,
 o 70 (.iaS 1) [t 68, t 69],
 o 71 (.load 1 false) [t 70],
 m 72 0,
 m 73 9,
 o 74 (.bin .sub) [t 73, i 1],
 o 75 (.iaS 1) [t 72, t 74],
 o 76 (.load 1 false) [t 75],
 o 77 (.call 129) [t 71, t 76],
 o 78 (.un .not) [t 77]]
def c128_29 : EC := .rg c128_29l true
@[simp] theorem c128_29e : Rg c128_29 c128_29l true := rgE _ _
def c128_30 : EC := .cd (t 78) (.ex 4) .skip
@[simp] theorem c128_30e : Cd c128_30 (t 78) (.ex 4) .skip := cdE _ _ _
def c128_31 : EC := .sq c128_29 c128_30
@[simp] theorem c128_31e : Sq c128_31 c128_29 c128_30 := sqE _ _
@[simp] def c128_32l : List EO := [m 79 0,
 m 80 9,
 m 81 0,
 m 82 9,
 o 83 (.bin .sub) [t 82, i 1],
 m 84 0,
 m 85 9,
 o 86 (.bin .sub) [t 85, i 1],
 o 87 (.iaS 1) [t 84, t 86],
 o 88 (.load 1 false) [t 87],
 m 89 0,
 m 90 9,
 o 91 (.iaS 1) [t 89, t 90],
 o 92 (.load 1 false) [t 91],
 o 93 (.iaS 1) [t 79, t 80],
 u (.store 1) [t 93, t 88],
 o 94 (.iaS 1) [t 81, t 83],
 u (.store 1) [t 94, t 92]]
def c128_32 : EC := .rg c128_32l true
@[simp] theorem c128_32e : Rg c128_32 c128_32l true := rgE _ _
def c128_33 : EC := .sq c128_31 c128_32
@[simp] theorem c128_33e : Sq c128_33 c128_31 c128_32 := sqE _ _
def c128_34 : EC := .bk 5 c128_33
@[simp] theorem c128_34e : Bk c128_34 5 c128_33 := bkE _ _
@[simp] def c128_35l : List EO := [m 66 9,
 o 67 (.bin .sub) [t 66, i 1],
 m 9 67]
def c128_35 : EC := .rg c128_35l false
@[simp] theorem c128_35e : Rg c128_35 c128_35l false := rgE _ _
def c128_36 : EC := .sq c128_34 c128_35
@[simp] theorem c128_36e : Sq c128_36 c128_34 c128_35 := sqE _ _
def c128_37 : EC := .sq c128_28 c128_36
@[simp] theorem c128_37e : Sq c128_37 c128_28 c128_36 := sqE _ _
def c128_38 : EC := .bk 4 (.lp c128_37)
@[simp] theorem c128_38e : Bk c128_38 4 (.lp c128_37) := bkE _ _
def c128_39 : EC := .sq c128_25 c128_38
@[simp] theorem c128_39e : Sq c128_39 c128_25 c128_38 := sqE _ _
def c128_40 : EC := .cd (t 61) c128_39 .skip
@[simp] theorem c128_40e : Cd c128_40 (t 61) c128_39 .skip := cdE _ _ _
def c128_41 : EC := .sq c128_24 c128_40
@[simp] theorem c128_41e : Sq c128_41 c128_24 c128_40 := sqE _ _
@[simp] def c128_42l : List EO := [m 95 2,
 m 96 7,
 o 97 (.bin .sub) [t 95, t 96],
 o 98 (.bin .geq) [t 97, i 2]]
def c128_42 : EC := .rg c128_42l false
@[simp] theorem c128_42e : Rg c128_42 c128_42l false := rgE _ _
@[simp] def c128_43l : List EO := [m 99 7,
 o 100 (.bin .add) [t 99, i 1],
 m 10 100]
def c128_43 : EC := .rg c128_43l false
@[simp] theorem c128_43e : Rg c128_43 c128_43l false := rgE _ _
@[simp] def c128_44l : List EO := [m 101 10,
 m 102 2,
 o 103 (.bin .lss) [t 101, t 102]]
def c128_44 : EC := .rg c128_44l false
@[simp] theorem c128_44e : Rg c128_44 c128_44l false := rgE _ _
def c128_45 : EC := .cd (t 103) .skip (.ex 6)
@[simp] theorem c128_45e : Cd c128_45 (t 103) .skip (.ex 6) := cdE _ _ _
def c128_46 : EC := .sq c128_44 c128_45
@[simp] theorem c128_46e : Sq c128_46 c128_44 c128_45 := sqE _ _
@[simp] def c128_47l : List EO := [m 106 0,
 m 107 10,
 o 108 (.iaS 1) [t 106, t 107],
 o 109 (.load 1 false) [t 108],
 m 110 0,
 m 111 10,
 o 112 (.bin .sub) [t 111, i 1],
 o 113 (.iaS 1) [t 110, t 112],
 o 114 (.load 1 false) [t 113],
 o 115 (.call 129) [t 109, t 114],
 o 116 (.un .not) [t 115]]
def c128_47 : EC := .rg c128_47l true
@[simp] theorem c128_47e : Rg c128_47 c128_47l true := rgE _ _
def c128_48 : EC := .cd (t 116) (.ex 6) .skip
@[simp] theorem c128_48e : Cd c128_48 (t 116) (.ex 6) .skip := cdE _ _ _
def c128_49 : EC := .sq c128_47 c128_48
@[simp] theorem c128_49e : Sq c128_49 c128_47 c128_48 := sqE _ _
@[simp] def c128_50l : List EO := [m 117 0,
 m 118 10,
 m 119 0,
 m 120 10,
 o 121 (.bin .sub) [t 120, i 1],
 m 122 0,
 m 123 10,
 o 124 (.bin .sub) [t 123, i 1],
 o 125 (.iaS 1) [t 122, t 124],
 o 126 (.load 1 false) [t 125],
 m 127 0,
 m 128 10,
 o 129 (.iaS 1) [t 127, t 128],
 o 130 (.load 1 false) [t 129],
 o 131 (.iaS 1) [t 117, t 118],
 u (.store 1) [t 131, t 126],
 o 132 (.iaS 1) [t 119, t 121],
 u (.store 1) [t 132, t 130]]
def c128_50 : EC := .rg c128_50l true
@[simp] theorem c128_50e : Rg c128_50 c128_50l true := rgE _ _
def c128_51 : EC := .sq c128_49 c128_50
@[simp] theorem c128_51e : Sq c128_51 c128_49 c128_50 := sqE _ _
def c128_52 : EC := .bk 7 c128_51
@[simp] theorem c128_52e : Bk c128_52 7 c128_51 := bkE _ _
@[simp] def c128_53l : List EO := [m 104 10,
 o 105 (.bin .add) [t 104, i 1],
 m 10 105]
def c128_53 : EC := .rg c128_53l false
@[simp] theorem c128_53e : Rg c128_53 c128_53l false := rgE _ _
def c128_54 : EC := .sq c128_52 c128_53
@[simp] theorem c128_54e : Sq c128_54 c128_52 c128_53 := sqE _ _
def c128_55 : EC := .sq c128_46 c128_54
@[simp] theorem c128_55e : Sq c128_55 c128_46 c128_54 := sqE _ _
def c128_56 : EC := .bk 6 (.lp c128_55)
@[simp] theorem c128_56e : Bk c128_56 6 (.lp c128_55) := bkE _ _
def c128_57 : EC := .sq c128_43 c128_56
@[simp] theorem c128_57e : Sq c128_57 c128_43 c128_56 := sqE _ _
def c128_58 : EC := .cd (t 98) c128_57 .skip
@[simp] theorem c128_58e : Cd c128_58 (t 98) c128_57 .skip := cdE _ _ _
def c128_59 : EC := .sq c128_42 c128_58
@[simp] theorem c128_59e : Sq c128_59 c128_42 c128_58 := sqE _ _
def c128_60 : EC := .sq c128_41 c128_59
@[simp] theorem c128_60e : Sq c128_60 c128_41 c128_59 := sqE _ _
def c128_61 : EC := .sq c128_23 c128_60
@[simp] theorem c128_61e : Sq c128_61 c128_23 c128_60 := sqE _ _
def c128_62 : EC := .sq c128_22 c128_61
@[simp] theorem c128_62e : Sq c128_62 c128_22 c128_61 := sqE _ _
def c128_63 : EC := .sq c128_17 c128_62
@[simp] theorem c128_63e : Sq c128_63 c128_17 c128_62 := sqE _ _
def c128_64 : EC := .sq c128_12 c128_63
@[simp] theorem c128_64e : Sq c128_64 c128_12 c128_63 := sqE _ _
def c128_65 : EC := .bk 1 c128_64
@[simp] theorem c128_65e : Bk c128_65 1 c128_64 := bkE _ _
@[simp] def c128_66l : List EO := [m 15 8,
 o 16 (.bin .add) [t 15, i 1],
 m 8 16]
def c128_66 : EC := .rg c128_66l false
@[simp] theorem c128_66e : Rg c128_66 c128_66l false := rgE _ _
def c128_67 : EC := .sq c128_65 c128_66
@[simp] theorem c128_67e : Sq c128_67 c128_65 c128_66 := sqE _ _
def c128_68 : EC := .sq c128_5 c128_67
@[simp] theorem c128_68e : Sq c128_68 c128_5 c128_67 := sqE _ _
def c128_69 : EC := .bk 0 (.lp c128_68)
@[simp] theorem c128_69e : Bk c128_69 0 (.lp c128_68) := bkE _ _
def c128_70 : EC := .sq c128_2 c128_69
@[simp] theorem c128_70e : Sq c128_70 c128_2 c128_69 := sqE _ _
@[simp] def c128_71l : List EO := [o 6 .mv [b false]]
def c128_71 : EC := .rg c128_71l false
@[simp] theorem c128_71e : Rg c128_71 c128_71l false := rgE _ _
def c128_72 : EC := .sq c128_71 .rt
@[simp] theorem c128_72e : Sq c128_72 c128_71 .rt := sqE _ _
def c128_73 : EC := .sq c128_70 c128_72
@[simp] theorem c128_73e : Sq c128_73 c128_70 c128_72 := sqE _ _
def c128_74 : EC := .sq c128_1 c128_73
@[simp] theorem c128_74e : Sq c128_74 c128_1 c128_73 := sqE _ _
def c128_75 : EC := .sq c128_0 c128_74
@[simp] theorem c128_75e : Sq c128_75 c128_0 c128_74 := sqE _ _
def c_slices_partialInsertionSortOrdered_int__128 : EC := c128_75
theorem k_128 : ecF Tryd.prog 128 = some (133, c_slices_partialInsertionSortOrdered_int__128, [.tm 6]) := by kernel_rfl

/-- cmp.Less[int] -/
@[simp] def c129_0l : List EO := [o 4 .mv [b false]]
def c129_0 : EC := .rg c129_0l false
@[simp] theorem c129_0e : Rg c129_0 c129_0l false := rgE _ _
@[simp] def c129_1l : List EO := [m 5 0,
 o 6 (.call 149) [t 5],
 m 7 6,
 y 8 7 .mv [t 1],
 y 9 7 (.call 149) [t 8],
 y 10 7 (.un .not) [t 9],
 o 11 .pick [t 7, t 10, b false],
 m 12 11,
 n 13 12 .mv [t 0],
 n 14 12 .mv [t 1],
 n 15 12 (.bin .lss) [t 13, t 14],
 o 16 .pick [t 12, b true, t 15],
 m 4 16]
def c129_1 : EC := .rg c129_1l false
@[simp] theorem c129_1e : Rg c129_1 c129_1l false := rgE _ _
def c129_2 : EC := .sq c129_1 .rt
@[simp] theorem c129_2e : Sq c129_2 c129_1 .rt := sqE _ _
def c129_3 : EC := .sq c129_0 c129_2
@[simp] theorem c129_3e : Sq c129_3 c129_0 c129_2 := sqE _ _
def c_cmp_Less_int__129 : EC := c129_3
theorem k_129 : ecF Tryd.prog 129 = some (17, c_cmp_Less_int__129, [.tm 4]) := by kernel_rfl

/-- slices.partitionEqualOrdered[int] -/
@[simp] def c130_0l : List EO := [o 8 .mv [i 0]]
def c130_0 : EC := .rg c130_0l false
@[simp] theorem c130_0e : Rg c130_0 c130_0l false := rgE _ _
@[simp] def c130_1l : List EO := [m 11 0,
 m 12 1,
 m 13 0,
 m 14 3,
 m 15 0,
 m 16 3,
 o 17 (.iaS 1) [t 15, t 16],
 o 18 (.load 1 false) [t 17],
 m 19 0,
 m 20 1,
 o 21 (.iaS 1) [t 19, t 20],
 o 22 (.load 1 false) [t 21],
 o 23 (.iaS 1) [t 11, t 12],
 u (.store 1) [t 23, t 18],
 o 24 (.iaS 1) [t 13, t 14],
 u (.store 1) [t 24, t 22]]
def c130_1 : EC := .rg c130_1l true
@[simp] theorem c130_1e : Rg c130_1 c130_1l true := rgE _ _
@[simp] def c130_2l : List EO := [m 25 1,
 o 26 (.bin .add) [t 25, i 1],
 m 27 2,
 o 28 (.bin .sub) [t 27, i 1],
 m 9 26,
 m 10 28]
def c130_2 : EC := .rg c130_2l false
@[simp] theorem c130_2e : Rg c130_2 c130_2l false := rgE _ _
@[simp] def c130_3l : List EO := [m 29 9,
 m 30 10,
 o 31 (.bin .leq) [t 29, t 30],
 m 32 31,
 y 33 32 .mv [t 0],
 y 34 32 .mv [t 1],
 y 35 32 (.iaS 1) [t 33, t 34],
 y 36 32 (.load 1 false) [t 35],
 y 37 32 .mv [t 0],
 y 38 32 .mv [t 9],
 y 39 32 (.iaS 1) [t 37, t 38],
 y 40 32 (.load 1 false) [t 39],
 y 41 32 (.call 129) [t 36, t 40],
 y 42 32 (.un .not) [t 41],
 o 43 .pick [t 32, t 42, b false]]
def c130_3 : EC := .rg c130_3l true
@[simp] theorem c130_3e : Rg c130_3 c130_3l true := rgE _ _
def c130_4 : EC := .cd (t 43) .skip (.ex 2)
@[simp] theorem c130_4e : Cd c130_4 (t 43) .skip (.ex 2) := cdE _ _ _
def c130_5 : EC := .sq c130_3 c130_4
@[simp] theorem c130_5e : Sq c130_5 c130_3 c130_4 := sqE _ _
@[simp] def c130_6l : List EO := [m 44 9,
 o 45 (.bin .add) [t 44, i 1],
 m 9 45]
def c130_6 : EC := .rg c130_6l false
@[simp] theorem c130_6e : Rg c130_6 c130_6l false := rgE _ _
def c130_7 : EC := .bk 3 c130_6
@[simp] theorem c130_7e : Bk c130_7 3 c130_6 := bkE _ _
def c130_8 : EC := .sq c130_5 c130_7
@[simp] theorem c130_8e : Sq c130_8 c130_5 c130_7 := sqE _ _
def c130_9 : EC := .bk 2 (.lp c130_8)
@[simp] theorem c130_9e : Bk c130_9 2 (.lp c130_8) := bkE _ _
@[simp] def c130_10l : List EO := [m 46 9,
 m 47 10,
 o 48 (.bin .leq) [t 46, t 47],
 m 49 48,
 y 50 49 .mv [t 0],
 y 51 49 .mv [t 1],
 y 52 49 (.iaS 1) [t 50, t 51],
 y 53 49 (.load 1 false) [t 52],
 y 54 49 .mv [t 0],
 y 55 49 .mv [t 10],
 y 56 49 (.iaS 1) [t 54, t 55],
 y 57 49 (.load 1 false) [t 56],
 y 58 49 (.call 129) [t 53, t 57],
 o 59 .pick [t 49, t 58, b false]]
def c130_10 : EC := .rg c130_10l true
@[simp] theorem c130_10e : Rg c130_10 c130_10l true := rgE _ _
def c130_11 : EC := .cd (t 59) .skip (.ex 4)
@[simp] theorem c130_11e : Cd c130_11 (t 59) .skip (.ex 4) := cdE _ _ _
def c130_12 : EC := .sq c130_10 c130_11
@[simp] theorem c130_12e : Sq c130_12 c130_10 c130_11 := sqE _ _
@[simp] def c130_13l : List EO := [m 60 10,
 o 61 (.bin .sub) [t 60, i 1],
 m 10 61]
def c130_13 : EC := .rg c130_13l false
@[simp] theorem c130_13e : Rg c130_13 c130_13l false := rgE _ _
def c130_14 : EC := .bk 5 c130_13
@[simp] theorem c130_14e : Bk c130_14 5 c130_13 := bkE _ _
def c130_15 : EC := .sq c130_12 c130_14
@[simp] theorem c130_15e : Sq c130_15 c130_12 c130_14 := sqE _ _
def c130_16 : EC := .bk 4 (.lp c130_15)
@[simp] theorem c130_16e : Bk c130_16 4 (.lp c130_15) := bkE _ _
@[simp] def c130_17l : List EO := [m 62 9,
 m 63 10,
 o 64 (.bin .gtr) [t 62, t 63]]
def c130_17 : EC := .rg c130_17l false
@[simp] theorem c130_17e : Rg c130_17 c130_17l false := rgE _ _
def c130_18 : EC := .cd (t 64) (.ex 0) .skip
@[simp] theorem c130_18e : Cd c130_18 (t 64) (.ex 0) .skip := cdE _ _ _
def c130_19 : EC := .sq c130_17 c130_18
@[simp] theorem c130_19e : Sq c130_19 c130_17 c130_18 := sqE _ _
@[simp] def c130_20l : List EO := [m 65 0,
 m 66 9,
 m 67 0,
 m 68 10,
 m 69 0,
 m 70 10,
 o 71 (.iaS 1) [t 69, t 70],
 o 72 (.load 1 false) [t 71],
 m 73 0,
 m 74 9,
 o 75 (.iaS 1) [t 73, t 74],
 o 76 (.load 1 false) [t 75],
 o 77 (.iaS 1) [t 65, t 66],
 u (.store 1) [t 77, t 72],
 o 78 (.iaS 1) [t 67, t 68],
 u (.store 1) [t 78, t 76]]
def c130_20 : EC := .rg c130_20l true
@[simp] theorem c130_20e : Rg c130_20 c130_20l true := rgE _ _
@[simp] def c130_21l : List EO := [m 79 9,
 o 80 (.bin .add) [t 79, i 1],
 m 9 80]
def c130_21 : EC := .rg c130_21l false
@[simp] theorem c130_21e : Rg c130_21 c130_21l false := rgE _ _
@[simp] def c130_22l : List EO := [m 81 10,
 o 82 (.bin .sub) [t 81, i 1],
 m 10 82]
def c130_22 : EC := .rg c130_22l false
@[simp] theorem c130_22e : Rg c130_22 c130_22l false := rgE _ _
def c130_23 : EC := .sq c130_21 c130_22
@[simp] theorem c130_23e : Sq c130_23 c130_21 c130_22 := sqE _ _
def c130_24 : EC := .sq c130_20 c130_23
@[simp] theorem c130_24e : Sq c130_24 c130_20 c130_23 := sqE _ _
def c130_25 : EC := .sq c130_19 c130_24
@[simp] theorem c130_25e : Sq c130_25 c130_19 c130_24 := sqE _ _
def c130_26 : EC := .sq c130_16 c130_25
@[simp] theorem c130_26e : Sq c130_26 c130_16 c130_25 := sqE _ _
def c130_27 : EC := .sq c130_9 c130_26
@[simp] theorem c130_27e : Sq c130_27 c130_9 c130_26 := sqE _ _
def c130_28 : EC := .bk 1 c130_27
@[simp] theorem c130_28e : Bk c130_28 1 c130_27 := bkE _ _
def c130_29 : EC := .bk 0 (.lp c130_28)
@[simp] theorem c130_29e : Bk c130_29 0 (.lp c130_28) := bkE _ _
@[simp] def c130_30l : List EO := [m 83 9,
 m 8 83]
def c130_30 : EC := .rg c130_30l false
@[simp] theorem c130_30e : Rg c130_30 c130_30l false := rgE _ _
def c130_31 : EC := .sq c130_30 .rt
@[simp] theorem c130_31e : Sq c130_31 c130_30 .rt := sqE _ _
def c130_32 : EC := .sq c130_29 c130_31
@[simp] theorem c130_32e : Sq c130_32 c130_29 c130_31 := sqE _ _
def c130_33 : EC := .sq c130_2 c130_32
@[simp] theorem c130_33e : Sq c130_33 c130_2 c130_32 := sqE _ _
def c130_34 : EC := .sq c130_1 c130_33
@[simp] theorem c130_34e : Sq c130_34 c130_1 c130_33 := sqE _ _
def c130_35 : EC := .sq c130_0 c130_34
@[simp] theorem c130_35e : Sq c130_35 c130_0 c130_34 := sqE _ _
def c_slices_partitionEqualOrdered_int__130 : EC := c130_35
theorem k_130 : ecF Tryd.prog 130 = some (84, c_slices_partitionEqualOrdered_int__130, [.tm 8]) := by kernel_rfl

/-- slices.partitionOrdered[int] -/
@[simp] def c131_0l : List EO := [o 8 .mv [i 0],
 o 9 .mv [b false]]
def c131_0 : EC := .rg c131_0l false
@[simp] theorem c131_0e : Rg c131_0 c131_0l false := rgE _ _
@[simp] def c131_1l : List EO := [m 12 0,
 m 13 1,
 m 14 0,
 m 15 3,
 m 16 0,
 m 17 3,
 o 18 (.iaS 1) [t 16, t 17],
 o 19 (.load 1 false) [t 18],
 m 20 0,
 m 21 1,
 o 22 (.iaS 1) [t 20, t 21],
 o 23 (.load 1 false) [t 22],
 o 24 (.iaS 1) [t 12, t 13],
 u (.store 1) [t 24, t 19],
 o 25 (.iaS 1) [t 14, t 15],
 u (.store 1) [t 25, t 23]]
def c131_1 : EC := .rg c131_1l true
@[simp] theorem c131_1e : Rg c131_1 c131_1l true := rgE _ _
@[simp] def c131_2l : List EO := [m 26 1,
 o 27 (.bin .add) [t 26, i 1],
 m 28 2,
 o 29 (.bin .sub) [t 28, i 1],
 m 10 27,
 m 11 29]
def c131_2 : EC := .rg c131_2l false
@[simp] theorem c131_2e : Rg c131_2 c131_2l false := rgE _ _
@[simp] def c131_3l : List EO := [m 30 10,
 m 31 11,
 o 32 (.bin .leq) [t 30, t 31],
 m 33 32,
 y 34 33 .mv [t 0],
 y 35 33 .mv [t 10],
 y 36 33 (.iaS 1) [t 34, t 35],
 y 37 33 (.load 1 false) [t 36],
 y 38 33 .mv [t 0],
 y 39 33 .mv [t 1],
 y 40 33 (.iaS 1) [t 38, t 39],
 y 41 33 (.load 1 false) [t 40],
 y 42 33 (.call 129) [t 37, t 41],
 o 43 .pick [t 33, t 42, b false]]
def c131_3 : EC := .rg c131_3l true
@[simp] theorem c131_3e : Rg c131_3 c131_3l true := rgE _ _
def c131_4 : EC := .cd (t 43) .skip (.ex 0)
@[simp] theorem c131_4e : Cd c131_4 (t 43) .skip (.ex 0) := cdE _ _ _
def c131_5 : EC := .sq c131_3 c131_4
@[simp] theorem c131_5e : Sq c131_5 c131_3 c131_4 := sqE _ _
@[simp] def c131_6l : List EO := [m 44 10,
 o 45 (.bin .add) [t 44, i 1],
 m 10 45]
def c131_6 : EC := .rg c131_6l false
@[simp] theorem c131_6e : Rg c131_6 c131_6l false := rgE _ _
def c131_7 : EC := .bk 1 c131_6
@[simp] theorem c131_7e : Bk c131_7 1 c131_6 := bkE _ _
def c131_8 : EC := .sq c131_5 c131_7
@[simp] theorem c131_8e : Sq c131_8 c131_5 c131_7 := sqE _ _
def c131_9 : EC := .bk 0 (.lp c131_8)
@[simp] theorem c131_9e : Bk c131_9 0 (.lp c131_8) := bkE _ _
@[simp] def c131_10l : List EO := [m 46 10,
 m 47 11,
 o 48 (.bin .leq) [t 46, t 47],
 m 49 48,
 y 50 49 .mv [t 0],
 y 51 49 .mv [t 11],
 y 52 49 (.iaS 1) [t 50, t 51],
 y 53 49 (.load 1 false) [t 52],
 y 54 49 .mv [t 0],
 y 55 49 .mv [t 1],
 y 56 49 (.iaS 1) [t 54, t 55],
 y 57 49 (.load 1 false) [t 56],
 y 58 49 (.call 129) [t 53, t 57],
 y 59 49 (.un .not) [t 58],
 o 60 .pick [t 49, t 59, b false]]
def c131_10 : EC := .rg c131_10l true
@[simp] theorem c131_10e : Rg c131_10 c131_10l true := rgE _ _
def c131_11 : EC := .cd (t 60) .skip (.ex 2)
@[simp] theorem c131_11e : Cd c131_11 (t 60) .skip (.ex 2) := cdE _ _ _
def c131_12 : EC := .sq c131_10 c131_11
@[simp] theorem c131_12e : Sq c131_12 c131_10 c131_11 := sqE _ _
@[simp] def c131_13l : List EO := [m 61 11,
 o 62 (.bin .sub) [t 61, i 1],
 m 11 62]
def c131_13 : EC := .rg c131_13l false
@[simp] theorem c131_13e : Rg c131_13 c131_13l false := rgE _ _
def c131_14 : EC := .bk 3 c131_13
@[simp] theorem c131_14e : Bk c131_14 3 c131_13 := bkE _ _
def c131_15 : EC := .sq c131_12 c131_14
@[simp] theorem c131_15e : Sq c131_15 c131_12 c131_14 := sqE _ _
def c131_16 : EC := .bk 2 (.lp c131_15)
@[simp] theorem c131_16e : Bk c131_16 2 (.lp c131_15) := bkE _ _
@[simp] def c131_17l : List EO := [m 63 10,
 m 64 11,
 o 65 (.bin .gtr) [t 63, t 64]]
def c131_17 : EC := .rg c131_17l false
@[simp] theorem c131_17e : Rg c131_17 c131_17l false := rgE _ _
@[simp] def c131_18l : List EO := [m 66 0,
 m 67 11,
 m 68 0,
 m 69 1,
 m 70 0,
 m 71 1,
 o 72 (.iaS 1) [t 70, t 71],
 o 73 (.load 1 false) [t 72],
 m 74 0,
 m 75 11,
 o 76 (.iaS 1) [t 74, t 75],
 o 77 (.load 1 false) [t 76],
 o 78 (.iaS 1) [t 66, t 67],
 u (.store 1) [t 78, t 73],
 o 79 (.iaS 1) [t 68, t 69],
 u (.store 1) [t 79, t 77]]
def c131_18 : EC := .rg c131_18l true
@[simp] theorem c131_18e : Rg c131_18 c131_18l true := rgE _ _
@[simp] def c131_19l : List EO := [m 80 11,
 m 8 80,
 o 9 .mv [b true]]
def c131_19 : EC := .rg c131_19l false
@[simp] theorem c131_19e : Rg c131_19 c131_19l false := rgE _ _
def c131_20 : EC := .sq c131_19 .rt
@[simp] theorem c131_20e : Sq c131_20 c131_19 .rt := sqE _ _
def c131_21 : EC := .sq c131_18 c131_20
@[simp] theorem c131_21e : Sq c131_21 c131_18 c131_20 := sqE _ _
def c131_22 : EC := .cd (t 65) c131_21 .skip
@[simp] theorem c131_22e : Cd c131_22 (t 65) c131_21 .skip := cdE _ _ _
def c131_23 : EC := .sq c131_17 c131_22
@[simp] theorem c131_23e : Sq c131_23 c131_17 c131_22 := sqE _ _
@[simp] def c131_24l : List EO := [m 81 0,
 m 82 10,
 m 83 0,
 m 84 11,
 m 85 0,
 m 86 11,
 o 87 (.iaS 1) [t 85, t 86],
 o 88 (.load 1 false) [t 87],
 m 89 0,
 m 90 10,
 o 91 (.iaS 1) [t 89, t 90],
 o 92 (.load 1 false) [t 91],
 o 93 (.iaS 1) [t 81, t 82],
 u (.store 1) [t 93, t 88],
 o 94 (.iaS 1) [t 83, t 84],
 u (.store 1) [t 94, t 92]]
def c131_24 : EC := .rg c131_24l true
@[simp] theorem c131_24e : Rg c131_24 c131_24l true := rgE _ _
@[simp] def c131_25l : List EO := [m 95 10,
 o 96 (.bin .add) [t 95, i 1],
 m 10 96]
def c131_25 : EC := .rg c131_25l false
@[simp] theorem c131_25e : Rg c131_25 c131_25l false := rgE _ _
@[simp] def c131_26l : List EO := [m 97 11,
 o 98 (.bin .sub) [t 97, i 1],
 m 11 98]
def c131_26 : EC := .rg c131_26l false
@[simp] theorem c131_26e : Rg c131_26 c131_26l false := rgE _ _
@[simp] def c131_27l : List EO := [m 99 10,
 m 100 11,
 o 101 (.bin .leq) [t 99, t 100],
 m 102 101,
 y 103 102 .mv [t 0],
 y 104 102 .mv [t 10],
 y 105 102 (.iaS 1) [t 103, t 104],
 y 106 102 (.load 1 false) [t 105],
 y 107 102 .mv [t 0],
 y 108 102 .mv [t 1],
 y 109 102 (.iaS 1) [t 107, t 108],
 y 110 102 (.load 1 false) [t 109],
 y 111 102 (.call 129) [t 106, t 110],
 o 112 .pick [t 102, t 111, b false]]
def c131_27 : EC := .rg c131_27l true
@[simp] theorem c131_27e : Rg c131_27 c131_27l true := rgE _ _
def c131_28 : EC := .cd (t 112) .skip (.ex 6)
@[simp] theorem c131_28e : Cd c131_28 (t 112) .skip (.ex 6) := cdE _ _ _
def c131_29 : EC := .sq c131_27 c131_28
@[simp] theorem c131_29e : Sq c131_29 c131_27 c131_28 := sqE _ _
@[simp] def c131_30l : List EO := [m 113 10,
 o 114 (.bin .add) [t 113, i 1],
 m 10 114]
def c131_30 : EC := .rg c131_30l false
@[simp] theorem c131_30e : Rg c131_30 c131_30l false := rgE _ _
def c131_31 : EC := .bk 7 c131_30
@[simp] theorem c131_31e : Bk c131_31 7 c131_30 := bkE _ _
def c131_32 : EC := .sq c131_29 c131_31
@[simp] theorem c131_32e : Sq c131_32 c131_29 c131_31 := sqE _ _
def c131_33 : EC := .bk 6 (.lp c131_32)
@[simp] theorem c131_33e : Bk c131_33 6 (.lp c131_32) := bkE _ _
@[simp] def c131_34l : List EO := [m 115 10,
 m 116 11,
 o 117 (.bin .leq) [t 115, t 116],
 m 118 117,
 y 119 118 .mv [t 0],
 y 120 118 .mv [t 11],
 y 121 118 (.iaS 1) [t 119, t 120],
 y 122 118 (.load 1 false) [t 121],
 y 123 118 .mv [t 0],
 y 124 118 .mv [t 1],
 y 125 118 (.iaS 1) [t 123, t 124],
 y 126 118 (.load 1 false) [t 125],
 y 127 118 (.call 129) [t 122, t 126],
 y 128 118 (.un .not) [t 127],
 o 129 .pick [t 118, t 128, b false]]
def c131_34 : EC := .rg c131_34l true
@[simp] theorem c131_34e : Rg c131_34 c131_34l true := rgE _ _
def c131_35 : EC := .cd (t 129) .skip (.ex 8)
@[simp] theorem c131_35e : Cd c131_35 (t 129) .skip (.ex 8) := cdE _ _ _
def c131_36 : EC := .sq c131_34 c131_35
@[simp] theorem c131_36e : Sq c131_36 c131_34 c131_35 := sqE _ _
@[simp] def c131_37l : List EO := [m 130 11,
 o 131 (.bin .sub) [t 130, i 1],
 m 11 131]
def c131_37 : EC := .rg c131_37l false
@[simp] theorem c131_37e : Rg c131_37 c131_37l false := rgE _ _
def c131_38 : EC := .bk 9 c131_37
@[simp] theorem c131_38e : Bk c131_38 9 c131_37 := bkE _ _
def c131_39 : EC := .sq c131_36 c131_38
@[simp] theorem c131_39e : Sq c131_39 c131_36 c131_38 := sqE _ _
def c131_40 : EC := .bk 8 (.lp c131_39)
@[simp] theorem c131_40e : Bk c131_40 8 (.lp c131_39) := bkE _ _
@[simp] def c131_41l : List EO := [m 132 10,
 m 133 11,
 o 134 (.bin .gtr) [t 132, t 133]]
def c131_41 : EC := .rg c131_41l false
@[simp] theorem c131_41e : Rg c131_41 c131_41l false := rgE _ _
def c131_42 : EC := .cd (t 134) (.ex 4) .skip
@[simp] theorem c131_42e : Cd c131_42 (t 134) (.ex 4) .skip := cdE _ _ _
def c131_43 : EC := .sq c131_41 c131_42
@[simp] theorem c131_43e : Sq c131_43 c131_41 c131_42 := sqE _ _
@[simp] def c131_44l : List EO := [m 135 0,
 m 136 10,
 m 137 0,
 m 138 11,
 m 139 0,
 m 140 11,
 o 141 (.iaS 1) [t 139, t 140],
 o 142 (.load 1 false) [t 141],
 m 143 0,
 m 144 10,
 o 145 (.iaS 1) [t 143, t 144],
 o 146 (.load 1 false) [t 145],
 o 147 (.iaS 1) [t 135, t 136],
 u (.store 1) [t 147, t 142],
 o 148 (.iaS 1) [t 137, t 138],
 u (.store 1) [t 148, t 146]]
def c131_44 : EC := .rg c131_44l true
@[simp] theorem c131_44e : Rg c131_44 c131_44l true := rgE _ _
@[simp] def c131_45l : List EO := [m 149 10,
 o 150 (.bin .add) [t 149, i 1],
 m 10 150]
def c131_45 : EC := .rg c131_45l false
@[simp] theorem c131_45e : Rg c131_45 c131_45l false := rgE _ _
@[simp] def c131_46l : List EO := [m 151 11,
 o 152 (.bin .sub) [t 151, i 1],
 m 11 152]
def c131_46 : EC := .rg c131_46l false
@[simp] theorem c131_46e : Rg c131_46 c131_46l false := rgE _ _
def c131_47 : EC := .sq c131_45 c131_46
@[simp] theorem c131_47e : Sq c131_47 c131_45 c131_46 := sqE _ _
def c131_48 : EC := .sq c131_44 c131_47
@[simp] theorem c131_48e : Sq c131_48 c131_44 c131_47 := sqE _ _
def c131_49 : EC := .sq c131_43 c131_48
@[simp] theorem c131_49e : Sq c131_49 c131_43 c131_48 := sqE _ _
def c131_50 : EC := .sq c131_40 c131_49
@[simp] theorem c131_50e : Sq c131_50 c131_40 c131_49 := sqE _ _
def c131_51 : EC := .sq c131_33 c131_50
@[simp] theorem c131_51e : Sq c131_51 c131_33 c131_50 := sqE _ _
def c131_52 : EC := .bk 5 c131_51
@[simp] theorem c131_52e : Bk c131_52 5 c131_51 := bkE _ _
def c131_53 : EC := .bk 4 (.lp c131_52)
@[simp] theorem c131_53e : Bk c131_53 4 (.lp c131_52) := bkE _ _
@[simp] def c131_54l : List EO := [m 153 0,
 m 154 11,
 m 155 0,
 m 156 1,
 m 157 0,
 m 158 1,
 o 159 (.iaS 1) [t 157, t 158],
 o 160 (.load 1 false) [t 159],
 m 161 0,
 m 162 11,
 o 163 (.iaS 1) [t 161, t 162],
 o 164 (.load 1 false) [t 163],
 o 165 (.iaS 1) [t 153, t 154],
 u (.store 1) [t 165, t 160],
 o 166 (.iaS 1) [t 155, t 156],
 u (.store 1) [t 166, t 164]]
def c131_54 : EC := .rg c131_54l true
@[simp] theorem c131_54e : Rg c131_54 c131_54l true := rgE _ _
@[simp] def c131_55l : List EO := [m 167 11,
 m 8 167,
 o 9 .mv [b false]]
def c131_55 : EC := .rg c131_55l false
@[simp] theorem c131_55e : Rg c131_55 c131_55l false := rgE _ _
def c131_56 : EC := .sq c131_55 .rt
@[simp] theorem c131_56e : Sq c131_56 c131_55 .rt := sqE _ _
def c131_57 : EC := .sq c131_54 c131_56
@[simp] theorem c131_57e : Sq c131_57 c131_54 c131_56 := sqE _ _
def c131_58 : EC := .sq c131_53 c131_57
@[simp] theorem c131_58e : Sq c131_58 c131_53 c131_57 := sqE _ _
def c131_59 : EC := .sq c131_26 c131_58
@[simp] theorem c131_59e : Sq c131_59 c131_26 c131_58 := sqE _ _
def c131_60 : EC := .sq c131_25 c131_59
@[simp] theorem c131_60e : Sq c131_60 c131_25 c131_59 := sqE _ _
def c131_61 : EC := .sq c131_24 c131_60
@[simp] theorem c131_61e : Sq c131_61 c131_24 c131_60 := sqE _ _
def c131_62 : EC := .sq c131_23 c131_61
@[simp] theorem c131_62e : Sq c131_62 c131_23 c131_61 := sqE _ _
def c131_63 : EC := .sq c131_16 c131_62
@[simp] theorem c131_63e : Sq c131_63 c131_16 c131_62 := sqE _ _
def c131_64 : EC := .sq c131_9 c131_63
@[simp] theorem c131_64e : Sq c131_64 c131_9 c131_63 := sqE _ _
def c131_65 : EC := .sq c131_2 c131_64
@[simp] theorem c131_65e : Sq c131_65 c131_2 c131_64 := sqE _ _
def c131_66 : EC := .sq c131_1 c131_65
@[simp] theorem c131_66e : Sq c131_66 c131_1 c131_65 := sqE _ _
def c131_67 : EC := .sq c131_0 c131_66
@[simp] theorem c131_67e : Sq c131_67 c131_0 c131_66 := sqE _ _
def c_slices_partitionOrdered_int__131 : EC := c131_67
theorem k_131 : ecF Tryd.prog 131 = some (168, c_slices_partitionOrdered_int__131, [.tm 8, .tm 9]) := by kernel_rfl

/-- slices.IndexFunc[[]tallystone/syntax.Expr,tallystone/syntax.Expr] -/
@[simp] def c134_0l : List EO := [o 4 .mv [i 0]]
def c134_0 : EC := .rg c134_0l false
@[simp] theorem c134_0e : Rg c134_0 c134_0l false := rgE _ _
@[simp] def c134_1l : List EO := [m 6 0,
 o 7 .lenL [t 6],
 o 8 .mv [i 0]]
def c134_1 : EC := .rg c134_1l false
@[simp] theorem c134_1e : Rg c134_1 c134_1l false := rgE _ _
@[simp] def c134_2l : List EO := [o 9 (.bin .lss) [t 8, t 7]]
def c134_2 : EC := .rg c134_2l false
@[simp] theorem c134_2e : Rg c134_2 c134_2l false := rgE _ _
def c134_3 : EC := .cd (t 9) .skip (.ex 0)
@[simp] theorem c134_3e : Cd c134_3 (t 9) .skip (.ex 0) := cdE _ _ _
@[simp] def c134_4l : List EO := [m 10 8,
 m 5 10]
def c134_4 : EC := .rg c134_4l false
@[simp] theorem c134_4e : Rg c134_4 c134_4l false := rgE _ _
@[simp] def c134_5l : List EO := [m 11 1,
 m 12 0,
 m 13 5,
 o 14 (.iaS 6) [t 12, t 13],
 o 15 (.load 6 true) [t 14],
 o 16 .callv [t 11, t 15]]
def c134_5 : EC := .rg c134_5l false
@[simp] theorem c134_5e : Rg c134_5 c134_5l false := rgE _ _
@[simp] def c134_6l : List EO := [m 17 5,
 m 4 17]
def c134_6 : EC := .rg c134_6l false
@[simp] theorem c134_6e : Rg c134_6 c134_6l false := rgE _ _
def c134_7 : EC := .sq c134_6 .rt
@[simp] theorem c134_7e : Sq c134_7 c134_6 .rt := sqE _ _
def c134_8 : EC := .cd (t 16) c134_7 .skip
@[simp] theorem c134_8e : Cd c134_8 (t 16) c134_7 .skip := cdE _ _ _
def c134_9 : EC := .sq c134_5 c134_8
@[simp] theorem c134_9e : Sq c134_9 c134_5 c134_8 := sqE _ _
def c134_10 : EC := .sq c134_4 c134_9
@[simp] theorem c134_10e : Sq c134_10 c134_4 c134_9 := sqE _ _
def c134_11 : EC := .bk 1 c134_10
@[simp] theorem c134_11e : Bk c134_11 1 c134_10 := bkE _ _
@[simp] def c134_12l : List EO := [o 18 (.bin .add) [t 8, i 1],
 m 8 18]
def c134_12 : EC := .rg c134_12l false
@[simp] theorem c134_12e : Rg c134_12 c134_12l false := rgE _ _
def c134_13 : EC := .sq c134_11 c134_12
@[simp] theorem c134_13e : Sq c134_13 c134_11 c134_12 := sqE _ _
def c134_14 : EC := .sq c134_3 c134_13
@[simp] theorem c134_14e : Sq c134_14 c134_3 c134_13 := sqE _ _
def c134_15 : EC := .sq c134_2 c134_14
@[simp] theorem c134_15e : Sq c134_15 c134_2 c134_14 := sqE _ _
def c134_16 : EC := .bk 0 (.lp c134_15)
@[simp] theorem c134_16e : Bk c134_16 0 (.lp c134_15) := bkE _ _
def c134_17 : EC := .sq c134_1 c134_16
@[simp] theorem c134_17e : Sq c134_17 c134_1 c134_16 := sqE _ _
@[simp] def c134_18l : List EO := [o 4 .mv [i (-1)]]
def c134_18 : EC := .rg c134_18l false
@[simp] theorem c134_18e : Rg c134_18 c134_18l false := rgE _ _
def c134_19 : EC := .sq c134_18 .rt
@[simp] theorem c134_19e : Sq c134_19 c134_18 .rt := sqE _ _
def c134_20 : EC := .sq c134_17 c134_19
@[simp] theorem c134_20e : Sq c134_20 c134_17 c134_19 := sqE _ _
def c134_21 : EC := .sq c134_0 c134_20
@[simp] theorem c134_21e : Sq c134_21 c134_0 c134_20 := sqE _ _
def c_syntax_Expr__134 : EC := c134_21
theorem k_134 : ecF Tryd.prog 134 = some (19, c_syntax_Expr__134, [.tm 4]) := by kernel_rfl

/-- tallystone/token.next -/
@[simp] def c136_0l : List EO := [o 2 .mv [i 0],
 o 3 .mv [i 0]]
def c136_0 : EC := .rg c136_0l false
@[simp] theorem c136_0e : Rg c136_0 c136_0l false := rgE _ _
@[simp] def c136_1l : List EO := [m 5 0,
 o 6 .ixS [t 5, i 0],
 o 7 (.call 150) [t 6],
 m 4 7]
def c136_1 : EC := .rg c136_1l false
@[simp] theorem c136_1e : Rg c136_1 c136_1l false := rgE _ _
@[simp] def c136_2l : List EO := [m 8 0,
 o 9 (.call 151) [t 8, c (.fn (.func 152) [])],
 o 2 .mv [i 1],
 m 3 9]
def c136_2 : EC := .rg c136_2l false
@[simp] theorem c136_2e : Rg c136_2 c136_2l false := rgE _ _
def c136_3 : EC := .sq c136_2 .rt
@[simp] theorem c136_3e : Sq c136_3 c136_2 .rt := sqE _ _
@[simp] def c136_4l : List EO := [m 11 0,
 o 12 .ixS [t 11, i 0],
 o 13 (.call 153) [t 12],
 m 10 13]
def c136_4 : EC := .rg c136_4l false
@[simp] theorem c136_4e : Rg c136_4 c136_4l false := rgE _ _
@[simp] def c136_5l : List EO := [m 14 0,
 o 15 (.call 151) [t 14, c (.fn (.func 153) [])],
 o 2 .mv [i 2],
 m 3 15]
def c136_5 : EC := .rg c136_5l false
@[simp] theorem c136_5e : Rg c136_5 c136_5l false := rgE _ _
def c136_6 : EC := .sq c136_5 .rt
@[simp] theorem c136_6e : Sq c136_6 c136_5 .rt := sqE _ _
@[simp] def c136_7l : List EO := [m 17 0,
 o 18 .lenS [t 17],
 o 19 (.bin .gtr) [t 18, i 1],
 m 20 19,
 y 21 20 (.call 155) [c (.t (.str [46, 46, 32, 60, 61, 32, 62, 61, 32, 33, 61]))],
 y 22 20 .mv [t 0],
 y 23 20 (.slS false true) [t 22, i 2],
 y 24 20 (.call 154) [t 21, t 23],
 o 25 .pick [t 20, t 24, b false],
 m 16 25]
def c136_7 : EC := .rg c136_7l true
@[simp] theorem c136_7e : Rg c136_7 c136_7l true := rgE _ _
@[simp] def c136_8l : List EO := [o 2 .mv [i 3],
 o 3 .mv [i 2]]
def c136_8 : EC := .rg c136_8l false
@[simp] theorem c136_8e : Rg c136_8 c136_8l false := rgE _ _
def c136_9 : EC := .sq c136_8 .rt
@[simp] theorem c136_9e : Sq c136_9 c136_8 .rt := sqE _ _
@[simp] def c136_10l : List EO := [m 27 0,
 o 28 .ixS [t 27, i 0],
 o 29 (.call 156) [c (.t (.str [123, 125, 40, 41, 44, 59, 61, 43, 45, 42, 60, 62])), t 28],
 o 30 (.bin .geq) [t 29, i 0],
 m 26 30]
def c136_10 : EC := .rg c136_10l false
@[simp] theorem c136_10e : Rg c136_10 c136_10l false := rgE _ _
@[simp] def c136_11l : List EO := [o 2 .mv [i 3],
 o 3 .mv [i 1]]
def c136_11 : EC := .rg c136_11l false
@[simp] theorem c136_11e : Rg c136_11 c136_11l false := rgE _ _
def c136_12 : EC := .sq c136_11 .rt
@[simp] theorem c136_12e : Sq c136_12 c136_11 .rt := sqE _ _
def c136_13 : EC := .cd (t 26) c136_12 .skip
@[simp] theorem c136_13e : Cd c136_13 (t 26) c136_12 .skip := cdE _ _ _
def c136_14 : EC := .sq c136_10 c136_13
@[simp] theorem c136_14e : Sq c136_14 c136_10 c136_13 := sqE _ _
def c136_15 : EC := .cd (t 16) c136_9 c136_14
@[simp] theorem c136_15e : Cd c136_15 (t 16) c136_9 c136_14 := cdE _ _ _
def c136_16 : EC := .sq c136_7 c136_15
@[simp] theorem c136_16e : Sq c136_16 c136_7 c136_15 := sqE _ _
def c136_17 : EC := .cd (t 10) c136_6 c136_16
@[simp] theorem c136_17e : Cd c136_17 (t 10) c136_6 c136_16 := cdE _ _ _
def c136_18 : EC := .sq c136_4 c136_17
@[simp] theorem c136_18e : Sq c136_18 c136_4 c136_17 := sqE _ _
def c136_19 : EC := .cd (t 4) c136_3 c136_18
@[simp] theorem c136_19e : Cd c136_19 (t 4) c136_3 c136_18 := cdE _ _ _
def c136_20 : EC := .sq c136_1 c136_19
@[simp] theorem c136_20e : Sq c136_20 c136_1 c136_19 := sqE _ _
def c136_21 : EC := .bk 0 c136_20
@[simp] theorem c136_21e : Bk c136_21 0 c136_20 := bkE _ _
@[simp] def c136_22l : List EO := [o 2 .mv [i 0],
 o 3 .mv [i 0]]
def c136_22 : EC := .rg c136_22l false
@[simp] theorem c136_22e : Rg c136_22 c136_22l false := rgE _ _
def c136_23 : EC := .sq c136_22 .rt
@[simp] theorem c136_23e : Sq c136_23 c136_22 .rt := sqE _ _
def c136_24 : EC := .sq c136_21 c136_23
@[simp] theorem c136_24e : Sq c136_24 c136_21 c136_23 := sqE _ _
def c136_25 : EC := .sq c136_0 c136_24
@[simp] theorem c136_25e : Sq c136_25 c136_0 c136_24 := sqE _ _
def c_token_next_136 : EC := c136_25
theorem k_136 : ecF Tryd.prog 136 = some (31, c_token_next_136, [.tm 2, .tm 3]) := by kernel_rfl

/-- tallystone/syntax.args -/
@[simp] def c138_0l : List EO := [o 2 .mv [i 0]]
def c138_0 : EC := .rg c138_0l false
@[simp] theorem c138_0e : Rg c138_0 c138_0l false := rgE _ _
@[simp] def c138_1l : List EO := [m 4 0,
 o 5 (.bin .geq) [t 4, i 3],
 m 6 5,
 y 7 6 .mv [t 0],
 y 8 6 (.bin .leq) [t 7, i 6],
 o 9 .pick [t 6, t 8, b false],
 m 3 9]
def c138_1 : EC := .rg c138_1l false
@[simp] theorem c138_1e : Rg c138_1 c138_1l false := rgE _ _
@[simp] def c138_2l : List EO := [m 10 0,
 o 11 (.bin .eql) [t 10, i 20],
 m 3 11]
def c138_2 : EC := .rg c138_2l false
@[simp] theorem c138_2e : Rg c138_2 c138_2l false := rgE _ _
def c138_3 : EC := .cd (t 3) .skip c138_2
@[simp] theorem c138_3e : Cd c138_3 (t 3) .skip c138_2 := cdE _ _ _
def c138_4 : EC := .sq c138_1 c138_3
@[simp] theorem c138_4e : Sq c138_4 c138_1 c138_3 := sqE _ _
@[simp] def c138_5l : List EO := [o 2 .mv [i 1]]
def c138_5 : EC := .rg c138_5l false
@[simp] theorem c138_5e : Rg c138_5 c138_5l false := rgE _ _
def c138_6 : EC := .sq c138_5 .rt
@[simp] theorem c138_6e : Sq c138_6 c138_5 .rt := sqE _ _
@[simp] def c138_7l : List EO := [m 13 0,
 o 14 (.bin .geq) [t 13, i 7],
 m 15 14,
 y 16 15 .mv [t 0],
 y 17 15 (.bin .leq) [t 16, i 19],
 o 18 .pick [t 15, t 17, b false],
 m 12 18]
def c138_7 : EC := .rg c138_7l false
@[simp] theorem c138_7e : Rg c138_7 c138_7l false := rgE _ _
@[simp] def c138_8l : List EO := [o 2 .mv [i 2]]
def c138_8 : EC := .rg c138_8l false
@[simp] theorem c138_8e : Rg c138_8 c138_8l false := rgE _ _
def c138_9 : EC := .sq c138_8 .rt
@[simp] theorem c138_9e : Sq c138_9 c138_8 .rt := sqE _ _
def c138_10 : EC := .cd (t 12) c138_9 .skip
@[simp] theorem c138_10e : Cd c138_10 (t 12) c138_9 .skip := cdE _ _ _
def c138_11 : EC := .sq c138_7 c138_10
@[simp] theorem c138_11e : Sq c138_11 c138_7 c138_10 := sqE _ _
def c138_12 : EC := .cd (t 3) c138_6 c138_11
@[simp] theorem c138_12e : Cd c138_12 (t 3) c138_6 c138_11 := cdE _ _ _
def c138_13 : EC := .sq c138_4 c138_12
@[simp] theorem c138_13e : Sq c138_13 c138_4 c138_12 := sqE _ _
def c138_14 : EC := .bk 0 c138_13
@[simp] theorem c138_14e : Bk c138_14 0 c138_13 := bkE _ _
@[simp] def c138_15l : List EO := [o 2 .mv [i 0]]
def c138_15 : EC := .rg c138_15l false
@[simp] theorem c138_15e : Rg c138_15 c138_15l false := rgE _ _
def c138_16 : EC := .sq c138_15 .rt
@[simp] theorem c138_16e : Sq c138_16 c138_15 .rt := sqE _ _
def c138_17 : EC := .sq c138_14 c138_16
@[simp] theorem c138_17e : Sq c138_17 c138_14 c138_16 := sqE _ _
def c138_18 : EC := .sq c138_0 c138_17
@[simp] theorem c138_18e : Sq c138_18 c138_0 c138_17 := sqE _ _
def c_syntax_args_138 : EC := c138_18
theorem k_138 : ecF Tryd.prog 138 = some (19, c_syntax_args_138, [.tm 2]) := by kernel_rfl

/-- tallystone/syntax.proper$1 -/
@[simp] def c139_0l : List EO := [o 1 .box [t 0],
 o 2 .mv [b false]]
def c139_0 : EC := .rg c139_0l false
@[simp] theorem c139_0e : Rg c139_0 c139_0l false := rgE _ _
@[simp] def c139_1l : List EO := [o 3 (.load 6 true) [t 1],
 o 4 (.call 115) [t 3],
 o 5 (.un .not) [t 4],
 m 2 5]
def c139_1 : EC := .rg c139_1l false
@[simp] theorem c139_1e : Rg c139_1 c139_1l false := rgE _ _
def c139_2 : EC := .sq c139_1 .rt
@[simp] theorem c139_2e : Sq c139_2 c139_1 .rt := sqE _ _
def c139_3 : EC := .sq c139_0 c139_2
@[simp] theorem c139_3e : Sq c139_3 c139_0 c139_2 := sqE _ _
def c_syntax_properS1_139 : EC := c139_3
theorem k_139 : ecF Tryd.prog 139 = some (6, c_syntax_properS1_139, [.tm 2]) := by kernel_rfl

/-- internal/strconv.small -/
@[simp] def c140_0l : List EO := [o 2 .mv [c (.t (.str []))]]
def c140_0 : EC := .rg c140_0l false
@[simp] theorem c140_0e : Rg c140_0 c140_0l false := rgE _ _
@[simp] def c140_1l : List EO := [m 3 0,
 o 4 (.bin .lss) [t 3, i 10]]
def c140_1 : EC := .rg c140_1l false
@[simp] theorem c140_1e : Rg c140_1 c140_1l false := rgE _ _
@[simp] def c140_2l : List EO := [m 5 0,
 m 6 0,
 o 7 (.bin .add) [t 6, i 1],
 o 8 (.slS true true) [c (.t (.str [48, 49, 50, 51, 52, 53, 54, 55, 56, 57, 97, 98, 99, 100, 101, 102, 103, 104, 105, 106, 107, 108, 109, 110, 111, 112, 113, 114, 115, 116, 117, 118, 119, 120, 121, 122])), t 5, t 7],
 m 2 8]
def c140_2 : EC := .rg c140_2l false
@[simp] theorem c140_2e : Rg c140_2 c140_2l false := rgE _ _
def c140_3 : EC := .sq c140_2 .rt
@[simp] theorem c140_3e : Sq c140_3 c140_2 .rt := sqE _ _
def c140_4 : EC := .cd (t 4) c140_3 .skip
@[simp] theorem c140_4e : Cd c140_4 (t 4) c140_3 .skip := cdE _ _ _
def c140_5 : EC := .sq c140_1 c140_4
@[simp] theorem c140_5e : Sq c140_5 c140_1 c140_4 := sqE _ _
@[simp] def c140_6l : List EO := [m 9 0,
 o 10 (.bin .mul) [t 9, i 2],
 m 11 0,
 o 12 (.bin .mul) [t 11, i 2],
 o 13 (.bin .add) [t 12, i 2],
 o 14 (.slS true true) [c (.t (.str [48, 48, 48, 49, 48, 50, 48, 51, 48, 52, 48, 53, 48, 54, 48, 55, 48, 56, 48, 57, 49, 48, 49, 49, 49, 50, 49, 51, 49, 52, 49, 53, 49, 54, 49, 55, 49, 56, 49, 57, 50, 48, 50, 49, 50, 50, 50, 51, 50, 52, 50, 53, 50, 54, 50, 55, 50, 56, 50, 57, 51, 48, 51, 49, 51, 50, 51, 51, 51, 52, 51, 53, 51, 54, 51, 55, 51, 56, 51, 57, 52, 48, 52, 49, 52, 50, 52, 51, 52, 52, 52, 53, 52, 54, 52, 55, 52, 56, 52, 57, 53, 48, 53, 49, 53, 50, 53, 51, 53, 52, 53, 53, 53, 54, 53, 55, 53, 56, 53, 57, 54, 48, 54, 49, 54, 50, 54, 51, 54, 52, 54, 53, 54, 54, 54, 55, 54, 56, 54, 57, 55, 48, 55, 49, 55, 50, 55, 51, 55, 52, 55, 53, 55, 54, 55, 55, 55, 56, 55, 57, 56, 48, 56, 49, 56, 50, 56, 51, 56, 52, 56, 53, 56, 54, 56, 55, 56, 56, 56, 57, 57, 48, 57, 49, 57, 50, 57, 51, 57, 52, 57, 53, 57, 54, 57, 55, 57, 56, 57, 57])), t 10, t 13],
 m 2 14]
def c140_6 : EC := .rg c140_6l false
@[simp] theorem c140_6e : Rg c140_6 c140_6l false := rgE _ _
def c140_7 : EC := .sq c140_6 .rt
@[simp] theorem c140_7e : Sq c140_7 c140_6 .rt := sqE _ _
def c140_8 : EC := .sq c140_5 c140_7
@[simp] theorem c140_8e : Sq c140_8 c140_5 c140_7 := sqE _ _
def c140_9 : EC := .sq c140_0 c140_8
@[simp] theorem c140_9e : Sq c140_9 c140_0 c140_8 := sqE _ _
def c_strconv_small_140 : EC := c140_9
theorem k_140 : ecF Tryd.prog 140 = some (15, c_strconv_small_140, [.tm 2]) := by kernel_rfl

/-- internal/strconv.formatBase10 -/
@[simp] def c142_0l : List EO := [m 17 0,
 o 18 .lenL [t 17],
 m 4 18]
def c142_0 : EC := .rg c142_0l false
@[simp] theorem c142_0e : Rg c142_0 c142_0l false := rgE _ _
@[simp] def c142_1l : List EO := [m 19 4,
 o 20 (.bin .geq) [t 19, i 8]]
def c142_1 : EC := .rg c142_1l false
@[simp] theorem c142_1e : Rg c142_1 c142_1l false := rgE _ _
def c142_2 : EC := .cd (t 20) .skip (.ex 0)
@[simp] theorem c142_2e : Cd c142_2 (t 20) .skip (.ex 0) := cdE _ _ _
def c142_3 : EC := .sq c142_1 c142_2
@[simp] theorem c142_3e : Sq c142_3 c142_1 c142_2 := sqE _ _
@[simp] def c142_4l : List EO := [m 21 1,
 o 22 (.bin .rem) [t 21, c (.t (.int .u64 100000000))],
 o 23 (.cvI .u32) [t 22],
 m 5 23]
def c142_4 : EC := .rg c142_4l false
@[simp] theorem c142_4e : Rg c142_4 c142_4l false := rgE _ _
@[simp] def c142_5l : List EO := [m 24 1,
 o 25 (.bin .quo) [t 24, c (.t (.int .u64 100000000))],
 m 1 25]
def c142_5 : EC := .rg c142_5l false
@[simp] theorem c142_5e : Rg c142_5 c142_5l false := rgE _ _
@[simp] def c142_6l : List EO := [m 26 5,
 o 27 (.bin .quo) [t 26, c (.t (.int .u32 10000))],
 m 28 5,
 o 29 (.bin .rem) [t 28, c (.t (.int .u32 10000))],
 m 6 27,
 m 7 29]
def c142_6 : EC := .rg c142_6l false
@[simp] theorem c142_6e : Rg c142_6 c142_6l false := rgE _ _
@[simp] def c142_7l : List EO := [m 30 7,
 o 31 (.bin .quo) [t 30, c (.t (.int .u32 100))],
 o 32 (.bin .mul) [t 31, c (.t (.int .u32 2))],
 m 33 7,
 o 34 (.bin .rem) [t 33, c (.t (.int .u32 100))],
 o 35 (.bin .mul) [t 34, c (.t (.int .u32 2))],
 m 8 32,
 m 9 35]
def c142_7 : EC := .rg c142_7l false
@[simp] theorem c142_7e : Rg c142_7 c142_7l false := rgE _ _
@[simp] def c142_8l : List EO := [m 36 6,
 o 37 (.bin .quo) [t 36, c (.t (.int .u32 100))],
 o 38 (.bin .mul) [t 37, c (.t (.int .u32 2))],
 m 39 6,
 o 40 (.bin .rem) [t 39, c (.t (.int .u32 100))],
 o 41 (.bin .mul) [t 40, c (.t (.int .u32 2))],
 m 10 38,
 m 11 41]
def c142_8 : EC := .rg c142_8l false
@[simp] theorem c142_8e : Rg c142_8 c142_8l false := rgE _ _
@[simp] def c142_9l : List EO := [m 42 0,
 m 43 4,
 o 44 (.bin .sub) [t 43, i 1],
 m 45 0,
 m 46 4,
 o 47 (.bin .sub) [t 46, i 2],
 m 48 9,
 o 49 (.bin .add) [t 48, c (.t (.int .u32 1))],
 o 50 .ixS [c (.t (.str [48, 48, 48, 49, 48, 50, 48, 51, 48, 52, 48, 53, 48, 54, 48, 55, 48, 56, 48, 57, 49, 48, 49, 49, 49, 50, 49, 51, 49, 52, 49, 53, 49, 54, 49, 55, 49, 56, 49, 57, 50, 48, 50, 49, 50, 50, 50, 51, 50, 52, 50, 53, 50, 54, 50, 55, 50, 56, 50, 57, 51, 48, 51, 49, 51, 50, 51, 51, 51, 52, 51, 53, 51, 54, 51, 55, 51, 56, 51, 57, 52, 48, 52, 49, 52, 50, 52, 51, 52, 52, 52, 53, 52, 54, 52, 55, 52, 56, 52, 57, 53, 48, 53, 49, 53, 50, 53, 51, 53, 52, 53, 53, 53, 54, 53, 55, 53, 56, 53, 57, 54, 48, 54, 49, 54, 50, 54, 51, 54, 52, 54, 53, 54, 54, 54, 55, 54, 56, 54, 57, 55, 48, 55, 49, 55, 50, 55, 51, 55, 52, 55, 53, 55, 54, 55, 55, 55, 56, 55, 57, 56, 48, 56, 49, 56, 50, 56, 51, 56, 52, 56, 53, 56, 54, 56, 55, 56, 56, 56, 57, 57, 48, 57, 49, 57, 50, 57, 51, 57, 52, 57, 53, 57, 54, 57, 55, 57, 56, 57, 57])), t 49],
 m 51 9,
 o 52 .ixS [c (.t (.str [48, 48, 48, 49, 48, 50, 48, 51, 48, 52, 48, 53, 48, 54, 48, 55, 48, 56, 48, 57, 49, 48, 49, 49, 49, 50, 49, 51, 49, 52, 49, 53, 49, 54, 49, 55, 49, 56, 49, 57, 50, 48, 50, 49, 50, 50, 50, 51, 50, 52, 50, 53, 50, 54, 50, 55, 50, 56, 50, 57, 51, 48, 51, 49, 51, 50, 51, 51, 51, 52, 51, 53, 51, 54, 51, 55, 51, 56, 51, 57, 52, 48, 52, 49, 52, 50, 52, 51, 52, 52, 52, 53, 52, 54, 52, 55, 52, 56, 52, 57, 53, 48, 53, 49, 53, 50, 53, 51, 53, 52, 53, 53, 53, 54, 53, 55, 53, 56, 53, 57, 54, 48, 54, 49, 54, 50, 54, 51, 54, 52, 54, 53, 54, 54, 54, 55, 54, 56, 54, 57, 55, 48, 55, 49, 55, 50, 55, 51, 55, 52, 55, 53, 55, 54, 55, 55, 55, 56, 55, 57, 56, 48, 56, 49, 56, 50, 56, 51, 56, 52, 56, 53, 56, 54, 56, 55, 56, 56, 56, 57, 57, 48, 57, 49, 57, 50, 57, 51, 57, 52, 57, 53, 57, 54, 57, 55, 57, 56, 57, 57])), t 51],
 o 53 (.iaS 1) [t 42, t 44],
 u (.store 1) [t 53, t 50],
 o 54 (.iaS 1) [t 45, t 47],
 u (.store 1) [t 54, t 52]]
def c142_9 : EC := .rg c142_9l true
@[simp] theorem c142_9e : Rg c142_9 c142_9l true := rgE _ _
@[simp] def c142_10l : List EO := [m 55 0,
 m 56 4,
 o 57 (.bin .sub) [t 56, i 3],
 m 58 0,
 m 59 4,
 o 60 (.bin .sub) [t 59, i 4],
 m 61 8,
 o 62 (.bin .add) [t 61, c (.t (.int .u32 1))],
 o 63 .ixS [c (.t (.str [48, 48, 48, 49, 48, 50, 48, 51, 48, 52, 48, 53, 48, 54, 48, 55, 48, 56, 48, 57, 49, 48, 49, 49, 49, 50, 49, 51, 49, 52, 49, 53, 49, 54, 49, 55, 49, 56, 49, 57, 50, 48, 50, 49, 50, 50, 50, 51, 50, 52, 50, 53, 50, 54, 50, 55, 50, 56, 50, 57, 51, 48, 51, 49, 51, 50, 51, 51, 51, 52, 51, 53, 51, 54, 51, 55, 51, 56, 51, 57, 52, 48, 52, 49, 52, 50, 52, 51, 52, 52, 52, 53, 52, 54, 52, 55, 52, 56, 52, 57, 53, 48, 53, 49, 53, 50, 53, 51, 53, 52, 53, 53, 53, 54, 53, 55, 53, 56, 53, 57, 54, 48, 54, 49, 54, 50, 54, 51, 54, 52, 54, 53, 54, 54, 54, 55, 54, 56, 54, 57, 55, 48, 55, 49, 55, 50, 55, 51, 55, 52, 55, 53, 55, 54, 55, 55, 55, 56, 55, 57, 56, 48, 56, 49, 56, 50, 56, 51, 56, 52, 56, 53, 56, 54, 56, 55, 56, 56, 56, 57, 57, 48, 57, 49, 57, 50, 57, 51, 57, 52, 57, 53, 57, 54, 57, 55, 57, 56, 57, 57])), t 62],
 m 64 8,
 o 65 .ixS [c (.t (.str [48, 48, 48, 49, 48, 50, 48, 51, 48, 52, 48, 53, 48, 54, 48, 55, 48, 56, 48, 57, 49, 48, 49, 49, 49, 50, 49, 51, 49, 52, 49, 53, 49, 54, 49, 55, 49, 56, 49, 57, 50, 48, 50, 49, 50, 50, 50, 51, 50, 52, 50, 53, 50, 54, 50, 55, 50, 56, 50, 57, 51, 48, 51, 49, 51, 50, 51, 51, 51, 52, 51, 53, 51, 54, 51, 55, 51, 56, 51, 57, 52, 48, 52, 49, 52, 50, 52, 51, 52, 52, 52, 53, 52, 54, 52, 55, 52, 56, 52, 57, 53, 48, 53, 49, 53, 50, 53, 51, 53, 52, 53, 53, 53, 54, 53, 55, 53, 56, 53, 57, 54, 48, 54, 49, 54, 50, 54, 51, 54, 52, 54, 53, 54, 54, 54, 55, 54, 56, 54, 57, 55, 48, 55, 49, 55, 50, 55, 51, 55, 52, 55, 53, 55, 54, 55, 55, 55, 56, 55, 57, 56, 48, 56, 49, 56, 50, 56, 51, 56, 52, 56, 53, 56, 54, 56, 55, 56, 56, 56, 57, 57, 48, 57, 49, 57, 50, 57, 51, 57, 52, 57, 53, 57, 54, 57, 55, 57, 56, 57, 57])), t 64],
 o 66 (.iaS 1) [t 55, t 57],
 u (.store 1) [t 66, t 63],
 o 67 (.iaS 1) [t 58, t 60],
 u (.store 1) [t 67, t 65]]
def c142_10 : EC := .rg c142_10l true
@[simp] theorem c142_10e : Rg c142_10 c142_10l true := rgE _ _
@[simp] def c142_11l : List EO := [m 68 0,
 m 69 4,
 o 70 (.bin .sub) [t 69, i 5],
 m 71 0,
 m 72 4,
 o 73 (.bin .sub) [t 72, i 6],
 m 74 11,
 o 75 (.bin .add) [t 74, c (.t (.int .u32 1))],
 o 76 .ixS [c (.t (.str [48, 48, 48, 49, 48, 50, 48, 51, 48, 52, 48, 53, 48, 54, 48, 55, 48, 56, 48, 57, 49, 48, 49, 49, 49, 50, 49, 51, 49, 52, 49, 53, 49, 54, 49, 55, 49, 56, 49, 57, 50, 48, 50, 49, 50, 50, 50, 51, 50, 52, 50, 53, 50, 54, 50, 55, 50, 56, 50, 57, 51, 48, 51, 49, 51, 50, 51, 51, 51, 52, 51, 53, 51, 54, 51, 55, 51, 56, 51, 57, 52, 48, 52, 49, 52, 50, 52, 51, 52, 52, 52, 53, 52, 54, 52, 55, 52, 56, 52, 57, 53, 48, 53, 49, 53, 50, 53, 51, 53, 52, 53, 53, 53, 54, 53, 55, 53, 56, 53, 57, 54, 48, 54, 49, 54, 50, 54, 51, 54, 52, 54, 53, 54, 54, 54, 55, 54, 56, 54, 57, 55, 48, 55, 49, 55, 50, 55, 51, 55, 52, 55, 53, 55, 54, 55, 55, 55, 56, 55, 57, 56, 48, 56, 49, 56, 50, 56, 51, 56, 52, 56, 53, 56, 54, 56, 55, 56, 56, 56, 57, 57, 48, 57, 49, 57, 50, 57, 51, 57, 52, 57, 53, 57, 54, 57, 55, 57, 56, 57, 57])), t 75],
 m 77 11,
 o 78 .ixS [c (.t (.str [48, 48, 48, 49, 48, 50, 48, 51, 48, 52, 48, 53, 48, 54, 48, 55, 48, 56, 48, 57, 49, 48, 49, 49, 49, 50, 49, 51, 49, 52, 49, 53, 49, 54, 49, 55, 49, 56, 49, 57, 50, 48, 50, 49, 50, 50, 50, 51, 50, 52, 50, 53, 50, 54, 50, 55, 50, 56, 50, 57, 51, 48, 51, 49, 51, 50, 51, 51, 51, 52, 51, 53, 51, 54, 51, 55, 51, 56, 51, 57, 52, 48, 52, 49, 52, 50, 52, 51, 52, 52, 52, 53, 52, 54, 52, 55, 52, 56, 52, 57, 53, 48, 53, 49, 53, 50, 53, 51, 53, 52, 53, 53, 53, 54, 53, 55, 53, 56, 53, 57, 54, 48, 54, 49, 54, 50, 54, 51, 54, 52, 54, 53, 54, 54, 54, 55, 54, 56, 54, 57, 55, 48, 55, 49, 55, 50, 55, 51, 55, 52, 55, 53, 55, 54, 55, 55, 55, 56, 55, 57, 56, 48, 56, 49, 56, 50, 56, 51, 56, 52, 56, 53, 56, 54, 56, 55, 56, 56, 56, 57, 57, 48, 57, 49, 57, 50, 57, 51, 57, 52, 57, 53, 57, 54, 57, 55, 57, 56, 57, 57])), t 77],
 o 79 (.iaS 1) [t 68, t 70],
 u (.store 1) [t 79, t 76],
 o 80 (.iaS 1) [t 71, t 73],
 u (.store 1) [t 80, t 78]]
def c142_11 : EC := .rg c142_11l true
@[simp] theorem c142_11e : Rg c142_11 c142_11l true := rgE _ _
@[simp] def c142_12l : List EO := [m 81 0,
 m 82 4,
 o 83 (.bin .sub) [t 82, i 7],
 m 84 0,
 m 85 4,
 o 86 (.bin .sub) [t 85, i 8],
 m 87 10,
 o 88 (.bin .add) [t 87, c (.t (.int .u32 1))],
 o 89 .ixS [c (.t (.str [48, 48, 48, 49, 48, 50, 48, 51, 48, 52, 48, 53, 48, 54, 48, 55, 48, 56, 48, 57, 49, 48, 49, 49, 49, 50, 49, 51, 49, 52, 49, 53, 49, 54, 49, 55, 49, 56, 49, 57, 50, 48, 50, 49, 50, 50, 50, 51, 50, 52, 50, 53, 50, 54, 50, 55, 50, 56, 50, 57, 51, 48, 51, 49, 51, 50, 51, 51, 51, 52, 51, 53, 51, 54, 51, 55, 51, 56, 51, 57, 52, 48, 52, 49, 52, 50, 52, 51, 52, 52, 52, 53, 52, 54, 52, 55, 52, 56, 52, 57, 53, 48, 53, 49, 53, 50, 53, 51, 53, 52, 53, 53, 53, 54, 53, 55, 53, 56, 53, 57, 54, 48, 54, 49, 54, 50, 54, 51, 54, 52, 54, 53, 54, 54, 54, 55, 54, 56, 54, 57, 55, 48, 55, 49, 55, 50, 55, 51, 55, 52, 55, 53, 55, 54, 55, 55, 55, 56, 55, 57, 56, 48, 56, 49, 56, 50, 56, 51, 56, 52, 56, 53, 56, 54, 56, 55, 56, 56, 56, 57, 57, 48, 57, 49, 57, 50, 57, 51, 57, 52, 57, 53, 57, 54, 57, 55, 57, 56, 57, 57])), t 88],
 m 90 10,
 o 91 .ixS [c (.t (.str [48, 48, 48, 49, 48, 50, 48, 51, 48, 52, 48, 53, 48, 54, 48, 55, 48, 56, 48, 57, 49, 48, 49, 49, 49, 50, 49, 51, 49, 52, 49, 53, 49, 54, 49, 55, 49, 56, 49, 57, 50, 48, 50, 49, 50, 50, 50, 51, 50, 52, 50, 53, 50, 54, 50, 55, 50, 56, 50, 57, 51, 48, 51, 49, 51, 50, 51, 51, 51, 52, 51, 53, 51, 54, 51, 55, 51, 56, 51, 57, 52, 48, 52, 49, 52, 50, 52, 51, 52, 52, 52, 53, 52, 54, 52, 55, 52, 56, 52, 57, 53, 48, 53, 49, 53, 50, 53, 51, 53, 52, 53, 53, 53, 54, 53, 55, 53, 56, 53, 57, 54, 48, 54, 49, 54, 50, 54, 51, 54, 52, 54, 53, 54, 54, 54, 55, 54, 56, 54, 57, 55, 48, 55, 49, 55, 50, 55, 51, 55, 52, 55, 53, 55, 54, 55, 55, 55, 56, 55, 57, 56, 48, 56, 49, 56, 50, 56, 51, 56, 52, 56, 53, 56, 54, 56, 55, 56, 56, 56, 57, 57, 48, 57, 49, 57, 50, 57, 51, 57, 52, 57, 53, 57, 54, 57, 55, 57, 56, 57, 57])), t 90],
 o 92 (.iaS 1) [t 81, t 83],
 u (.store 1) [t 92, t 89],
 o 93 (.iaS 1) [t 84, t 86],
 u (.store 1) [t 93, t 91]]
def c142_12 : EC := .rg c142_12l true
@[simp] theorem c142_12e : Rg c142_12 c142_12l true := rgE _ _
@[simp] def c142_13l : List EO := [m 94 4,
 o 95 (.bin .sub) [t 94, i 8],
 m 4 95]
def c142_13 : EC := .rg c142_13l false
@[simp] theorem c142_13e : Rg c142_13 c142_13l false := rgE _ _
def c142_14 : EC := .sq c142_12 c142_13
@[simp] theorem c142_14e : Sq c142_14 c142_12 c142_13 := sqE _ _
def c142_15 : EC := .sq c142_11 c142_14
@[simp] theorem c142_15e : Sq c142_15 c142_11 c142_14 := sqE _ _
def c142_16 : EC := .sq c142_10 c142_15
@[simp] theorem c142_16e : Sq c142_16 c142_10 c142_15 := sqE _ _
def c142_17 : EC := .sq c142_9 c142_16
@[simp] theorem c142_17e : Sq c142_17 c142_9 c142_16 := sqE _ _
def c142_18 : EC := .sq c142_8 c142_17
@[simp] theorem c142_18e : Sq c142_18 c142_8 c142_17 := sqE _ _
def c142_19 : EC := .sq c142_7 c142_18
@[simp] theorem c142_19e : Sq c142_19 c142_7 c142_18 := sqE _ _
def c142_20 : EC := .sq c142_6 c142_19
@[simp] theorem c142_20e : Sq c142_20 c142_6 c142_19 := sqE _ _
def c142_21 : EC := .sq c142_5 c142_20
@[simp] theorem c142_21e : Sq c142_21 c142_5 c142_20 := sqE _ _
def c142_22 : EC := .sq c142_4 c142_21
@[simp] theorem c142_22e : Sq c142_22 c142_4 c142_21 := sqE _ _
def c142_23 : EC := .bk 1 c142_22
@[simp] theorem c142_23e : Bk c142_23 1 c142_22 := bkE _ _
def c142_24 : EC := .sq c142_3 c142_23
@[simp] theorem c142_24e : Sq c142_24 c142_3 c142_23 := sqE _ _
def c142_25 : EC := .bk 0 (.lp c142_24)
@[simp] theorem c142_25e : Bk c142_25 0 (.lp c142_24) := bkE _ _
@[simp] def c142_26l : List EO := [m 96 1,
 o 97 (.cvI .u32) [t 96],
 m 12 97]
def c142_26 : EC := .rg c142_26l false
@[simp] theorem c142_26e : Rg c142_26 c142_26l false := rgE _ _
@[simp] def c142_27l : List EO := [m 98 4,
 o 99 (.bin .geq) [t 98, i 4]]
def c142_27 : EC := .rg c142_27l false
@[simp] theorem c142_27e : Rg c142_27 c142_27l false := rgE _ _
@[simp] def c142_28l : List EO := [m 100 12,
 o 101 (.bin .rem) [t 100, c (.t (.int .u32 10000))],
 m 13 101]
def c142_28 : EC := .rg c142_28l false
@[simp] theorem c142_28e : Rg c142_28 c142_28l false := rgE _ _
@[simp] def c142_29l : List EO := [m 102 12,
 o 103 (.bin .quo) [t 102, c (.t (.int .u32 10000))],
 m 12 103]
def c142_29 : EC := .rg c142_29l false
@[simp] theorem c142_29e : Rg c142_29 c142_29l false := rgE _ _
@[simp] def c142_30l : List EO := [m 104 13,
 o 105 (.bin .quo) [t 104, c (.t (.int .u32 100))],
 o 106 (.bin .mul) [t 105, c (.t (.int .u32 2))],
 m 107 13,
 o 108 (.bin .rem) [t 107, c (.t (.int .u32 100))],
 o 109 (.bin .mul) [t 108, c (.t (.int .u32 2))],
 m 14 106,
 m 15 109]
def c142_30 : EC := .rg c142_30l false
@[simp] theorem c142_30e : Rg c142_30 c142_30l false := rgE _ _
@[simp] def c142_31l : List EO := [m 110 0,
 m 111 4,
 o 112 (.bin .sub) [t 111, i 1],
 m 113 0,
 m 114 4,
 o 115 (.bin .sub) [t 114, i 2],
 m 116 15,
 o 117 (.bin .add) [t 116, c (.t (.int .u32 1))],
 o 118 .ixS [c (.t (.str [48, 48, 48, 49, 48, 50, 48, 51, 48, 52, 48, 53, 48, 54, 48, 55, 48, 56, 48, 57, 49, 48, 49, 49, 49, 50, 49, 51, 49, 52, 49, 53, 49, 54, 49, 55, 49, 56, 49, 57, 50, 48, 50, 49, 50, 50, 50, 51, 50, 52, 50, 53, 50, 54, 50, 55, 50, 56, 50, 57, 51, 48, 51, 49, 51, 50, 51, 51, 51, 52, 51, 53, 51, 54, 51, 55, 51, 56, 51, 57, 52, 48, 52, 49, 52, 50, 52, 51, 52, 52, 52, 53, 52, 54, 52, 55, 52, 56, 52, 57, 53, 48, 53, 49, 53, 50, 53, 51, 53, 52, 53, 53, 53, 54, 53, 55, 53, 56, 53, 57, 54, 48, 54, 49, 54, 50, 54, 51, 54, 52, 54, 53, 54, 54, 54, 55, 54, 56, 54, 57, 55, 48, 55, 49, 55, 50, 55, 51, 55, 52, 55, 53, 55, 54, 55, 55, 55, 56, 55, 57, 56, 48, 56, 49, 56, 50, 56, 51, 56, 52, 56, 53, 56, 54, 56, 55, 56, 56, 56, 57, 57, 48, 57, 49, 57, 50, 57, 51, 57, 52, 57, 53, 57, 54, 57, 55, 57, 56, 57, 57])), t 117],
 m 119 15,
 o 120 .ixS [c (.t (.str [48, 48, 48, 49, 48, 50, 48, 51, 48, 52, 48, 53, 48, 54, 48, 55, 48, 56, 48, 57, 49, 48, 49, 49, 49, 50, 49, 51, 49, 52, 49, 53, 49, 54, 49, 55, 49, 56, 49, 57, 50, 48, 50, 49, 50, 50, 50, 51, 50, 52, 50, 53, 50, 54, 50, 55, 50, 56, 50, 57, 51, 48, 51, 49, 51, 50, 51, 51, 51, 52, 51, 53, 51, 54, 51, 55, 51, 56, 51, 57, 52, 48, 52, 49, 52, 50, 52, 51, 52, 52, 52, 53, 52, 54, 52, 55, 52, 56, 52, 57, 53, 48, 53, 49, 53, 50, 53, 51, 53, 52, 53, 53, 53, 54, 53, 55, 53, 56, 53, 57, 54, 48, 54, 49, 54, 50, 54, 51, 54, 52, 54, 53, 54, 54, 54, 55, 54, 56, 54, 57, 55, 48, 55, 49, 55, 50, 55, 51, 55, 52, 55, 53, 55, 54, 55, 55, 55, 56, 55, 57, 56, 48, 56, 49, 56, 50, 56, 51, 56, 52, 56, 53, 56, 54, 56, 55, 56, 56, 56, 57, 57, 48, 57, 49, 57, 50, 57, 51, 57, 52, 57, 53, 57, 54, 57, 55, 57, 56, 57, 57])), t 119],
 o 121 (.iaS 1) [t 110, t 112],
 u (.store 1) [t 121, t 118],
 o 122 (.iaS 1) [t 113, t 115],
 u (.store 1) [t 122, t 120]]
def c142_31 : EC := .rg c142_31l true
@[simp] theorem c142_31e : Rg c142_31 c142_31l true := rgE _ _
@[simp] def c142_32l : List EO := [m 123 0,
 m 124 4,
 o 125 (.bin .sub) [t 124, i 3],
 m 126 0,
 m 127 4,
 o 128 (.bin .sub) [t 127, i 4],
 m 129 14,
 o 130 (.bin .add) [t 129, c (.t (.int .u32 1))],
 o 131 .ixS [c (.t (.str [48, 48, 48, 49, 48, 50, 48, 51, 48, 52, 48, 53, 48, 54, 48, 55, 48, 56, 48, 57, 49, 48, 49, 49, 49, 50, 49, 51, 49, 52, 49, 53, 49, 54, 49, 55, 49, 56, 49, 57, 50, 48, 50, 49, 50, 50, 50, 51, 50, 52, 50, 53, 50, 54, 50, 55, 50, 56, 50, 57, 51, 48, 51, 49, 51, 50, 51, 51, 51, 52, 51, 53, 51, 54, 51, 55, 51, 56, 51, 57, 52, 48, 52, 49, 52, 50, 52, 51, 52, 52, 52, 53, 52, 54, 52, 55, 52, 56, 52, 57, 53, 48, 53, 49, 53, 50, 53, 51, 53, 52, 53, 53, 53, 54, 53, 55, 53, 56, 53, 57, 54, 48, 54, 49, 54, 50, 54, 51, 54, 52, 54, 53, 54, 54, 54, 55, 54, 56, 54, 57, 55, 48, 55, 49, 55, 50, 55, 51, 55, 52, 55, 53, 55, 54, 55, 55, 55, 56, 55, 57, 56, 48, 56, 49, 56, 50, 56, 51, 56, 52, 56, 53, 56, 54, 56, 55, 56, 56, 56, 57, 57, 48, 57, 49, 57, 50, 57, 51, 57, 52, 57, 53, 57, 54, 57, 55, 57, 56, 57, 57])), t 130],
 m 132 14,
 o 133 .ixS [c (.t (.str [48, 48, 48, 49, 48, 50, 48, 51, 48, 52, 48, 53, 48, 54, 48, 55, 48, 56, 48, 57, 49, 48, 49, 49, 49, 50, 49, 51, 49, 52, 49, 53, 49, 54, 49, 55, 49, 56, 49, 57, 50, 48, 50, 49, 50, 50, 50, 51, 50, 52, 50, 53, 50, 54, 50, 55, 50, 56, 50, 57, 51, 48, 51, 49, 51, 50, 51, 51, 51, 52, 51, 53, 51, 54, 51, 55, 51, 56, 51, 57, 52, 48, 52, 49, 52, 50, 52, 51, 52, 52, 52, 53, 52, 54, 52, 55, 52, 56, 52, 57, 53, 48, 53, 49, 53, 50, 53, 51, 53, 52, 53, 53, 53, 54, 53, 55, 53, 56, 53, 57, 54, 48, 54, 49, 54, 50, 54, 51, 54, 52, 54, 53, 54, 54, 54, 55, 54, 56, 54, 57, 55, 48, 55, 49, 55, 50, 55, 51, 55, 52, 55, 53, 55, 54, 55, 55, 55, 56, 55, 57, 56, 48, 56, 49, 56, 50, 56, 51, 56, 52, 56, 53, 56, 54, 56, 55, 56, 56, 56, 57, 57, 48, 57, 49, 57, 50, 57, 51, 57, 52, 57, 53, 57, 54, 57, 55, 57, 56, 57, 57])), t 132],
 o 134 (.iaS 1) [t 123, t 125],
 u (.store 1) [t 134, t 131],
 o 135 (.iaS 1) [t 126, t 128],
 u (.store 1) [t 135, t 133]]
def c142_32 : EC := .rg c142_32l true
@[simp] theorem c142_32e : Rg c142_32 c142_32l true := rgE _ _
@[simp] def c142_33l : List EO := [m 136 4,
 o 137 (.bin .sub) [t 136, i 4],
 m 4 137]
def c142_33 : EC := .rg c142_33l false
@[simp] theorem c142_33e : Rg c142_33 c142_33l false := rgE _ _
def c142_34 : EC := .sq c142_32 c142_33
@[simp] theorem c142_34e : Sq c142_34 c142_32 c142_33 := sqE _ _
def c142_35 : EC := .sq c142_31 c142_34
@[simp] theorem c142_35e : Sq c142_35 c142_31 c142_34 := sqE _ _
def c142_36 : EC := .sq c142_30 c142_35
@[simp] theorem c142_36e : Sq c142_36 c142_30 c142_35 := sqE _ _
def c142_37 : EC := .sq c142_29 c142_36
@[simp] theorem c142_37e : Sq c142_37 c142_29 c142_36 := sqE _ _
def c142_38 : EC := .sq c142_28 c142_37
@[simp] theorem c142_38e : Sq c142_38 c142_28 c142_37 := sqE _ _
def c142_39 : EC := .cd (t 99) c142_38 .skip
@[simp] theorem c142_39e : Cd c142_39 (t 99) c142_38 .skip := cdE _ _ _
def c142_40 : EC := .sq c142_27 c142_39
@[simp] theorem c142_40e : Sq c142_40 c142_27 c142_39 := sqE _ _
@[simp] def c142_41l : List EO := [m 138 4,
 o 139 (.bin .geq) [t 138, i 2]]
def c142_41 : EC := .rg c142_41l false
@[simp] theorem c142_41e : Rg c142_41 c142_41l false := rgE _ _
@[simp] def c142_42l : List EO := [m 140 12,
 o 141 (.bin .rem) [t 140, c (.t (.int .u32 100))],
 o 142 (.bin .mul) [t 141, c (.t (.int .u32 2))],
 m 16 142]
def c142_42 : EC := .rg c142_42l false
@[simp] theorem c142_42e : Rg c142_42 c142_42l false := rgE _ _
@[simp] def c142_43l : List EO := [m 143 12,
 o 144 (.bin .quo) [t 143, c (.t (.int .u32 100))],
 m 12 144]
def c142_43 : EC := .rg c142_43l false
@[simp] theorem c142_43e : Rg c142_43 c142_43l false := rgE _ _
@[simp] def c142_44l : List EO := [m 145 0,
 m 146 4,
 o 147 (.bin .sub) [t 146, i 1],
 m 148 0,
 m 149 4,
 o 150 (.bin .sub) [t 149, i 2],
 m 151 16,
 o 152 (.bin .add) [t 151, c (.t (.int .u32 1))],
 o 153 .ixS [c (.t (.str [48, 48, 48, 49, 48, 50, 48, 51, 48, 52, 48, 53, 48, 54, 48, 55, 48, 56, 48, 57, 49, 48, 49, 49, 49, 50, 49, 51, 49, 52, 49, 53, 49, 54, 49, 55, 49, 56, 49, 57, 50, 48, 50, 49, 50, 50, 50, 51, 50, 52, 50, 53, 50, 54, 50, 55, 50, 56, 50, 57, 51, 48, 51, 49, 51, 50, 51, 51, 51, 52, 51, 53, 51, 54, 51, 55, 51, 56, 51, 57, 52, 48, 52, 49, 52, 50, 52, 51, 52, 52, 52, 53, 52, 54, 52, 55, 52, 56, 52, 57, 53, 48, 53, 49, 53, 50, 53, 51, 53, 52, 53, 53, 53, 54, 53, 55, 53, 56, 53, 57, 54, 48, 54, 49, 54, 50, 54, 51, 54, 52, 54, 53, 54, 54, 54, 55, 54, 56, 54, 57, 55, 48, 55, 49, 55, 50, 55, 51, 55, 52, 55, 53, 55, 54, 55, 55, 55, 56, 55, 57, 56, 48, 56, 49, 56, 50, 56, 51, 56, 52, 56, 53, 56, 54, 56, 55, 56, 56, 56, 57, 57, 48, 57, 49, 57, 50, 57, 51, 57, 52, 57, 53, 57, 54, 57, 55, 57, 56, 57, 57])), t 152],
 m 154 16,
 o 155 .ixS [c (.t (.str [48, 48, 48, 49, 48, 50, 48, 51, 48, 52, 48, 53, 48, 54, 48, 55, 48, 56, 48, 57, 49, 48, 49, 49, 49, 50, 49, 51, 49, 52, 49, 53, 49, 54, 49, 55, 49, 56, 49, 57, 50, 48, 50, 49, 50, 50, 50, 51, 50, 52, 50, 53, 50, 54, 50, 55, 50, 56, 50, 57, 51, 48, 51, 49, 51, 50, 51, 51, 51, 52, 51, 53, 51, 54, 51, 55, 51, 56, 51, 57, 52, 48, 52, 49, 52, 50, 52, 51, 52, 52, 52, 53, 52, 54, 52, 55, 52, 56, 52, 57, 53, 48, 53, 49, 53, 50, 53, 51, 53, 52, 53, 53, 53, 54, 53, 55, 53, 56, 53, 57, 54, 48, 54, 49, 54, 50, 54, 51, 54, 52, 54, 53, 54, 54, 54, 55, 54, 56, 54, 57, 55, 48, 55, 49, 55, 50, 55, 51, 55, 52, 55, 53, 55, 54, 55, 55, 55, 56, 55, 57, 56, 48, 56, 49, 56, 50, 56, 51, 56, 52, 56, 53, 56, 54, 56, 55, 56, 56, 56, 57, 57, 48, 57, 49, 57, 50, 57, 51, 57, 52, 57, 53, 57, 54, 57, 55, 57, 56, 57, 57])), t 154],
 o 156 (.iaS 1) [t 145, t 147],
 u (.store 1) [t 156, t 153],
 o 157 (.iaS 1) [t 148, t 150],
 u (.store 1) [t 157, t 155]]
def c142_44 : EC := .rg c142_44l true
@[simp] theorem c142_44e : Rg c142_44 c142_44l true := rgE _ _
@[simp] def c142_45l : List EO := [m 158 4,
 o 159 (.bin .sub) [t 158, i 2],
 m 4 159]
def c142_45 : EC := .rg c142_45l false
@[simp] theorem c142_45e : Rg c142_45 c142_45l false := rgE _ _
def c142_46 : EC := .sq c142_44 c142_45
@[simp] theorem c142_46e : Sq c142_46 c142_44 c142_45 := sqE _ _
def c142_47 : EC := .sq c142_43 c142_46
@[simp] theorem c142_47e : Sq c142_47 c142_43 c142_46 := sqE _ _
def c142_48 : EC := .sq c142_42 c142_47
@[simp] theorem c142_48e : Sq c142_48 c142_42 c142_47 := sqE _ _
def c142_49 : EC := .cd (t 139) c142_48 .skip
@[simp] theorem c142_49e : Cd c142_49 (t 139) c142_48 .skip := cdE _ _ _
def c142_50 : EC := .sq c142_41 c142_49
@[simp] theorem c142_50e : Sq c142_50 c142_41 c142_49 := sqE _ _
@[simp] def c142_51l : List EO := [m 160 4,
 o 161 (.bin .gtr) [t 160, i 0]]
def c142_51 : EC := .rg c142_51l false
@[simp] theorem c142_51e : Rg c142_51 c142_51l false := rgE _ _
@[simp] def c142_52l : List EO := [m 162 0,
 m 163 12,
 o 164 (.bin .add) [c (.t (.int .u32 48)), t 163],
 o 165 (.cvI .u8) [t 164],
 o 166 (.iaS 1) [t 162, i 0],
 u (.store 1) [t 166, t 165]]
def c142_52 : EC := .rg c142_52l false
@[simp] theorem c142_52e : Rg c142_52 c142_52l false := rgE _ _
def c142_53 : EC := .cd (t 161) c142_52 .skip
@[simp] theorem c142_53e : Cd c142_53 (t 161) c142_52 .skip := cdE _ _ _
def c142_54 : EC := .sq c142_51 c142_53
@[simp] theorem c142_54e : Sq c142_54 c142_51 c142_53 := sqE _ _
def c142_55 : EC := .sq c142_50 c142_54
@[simp] theorem c142_55e : Sq c142_55 c142_50 c142_54 := sqE _ _
def c142_56 : EC := .sq c142_40 c142_55
@[simp] theorem c142_56e : Sq c142_56 c142_40 c142_55 := sqE _ _
def c142_57 : EC := .sq c142_26 c142_56
@[simp] theorem c142_57e : Sq c142_57 c142_26 c142_56 := sqE _ _
def c142_58 : EC := .sq c142_25 c142_57
@[simp] theorem c142_58e : Sq c142_58 c142_25 c142_57 := sqE _ _
def c142_59 : EC := .sq c142_0 c142_58
@[simp] theorem c142_59e : Sq c142_59 c142_0 c142_58 := sqE _ _
def c_strconv_formatBase10_142 : EC := c142_59
theorem k_142 : ecF Tryd.prog 142 = some (167, c_strconv_formatBase10_142, []) := by kernel_rfl

/-- slices.siftDownOrdered[int] -/
@[simp] def c144_0l : List EO := [m 10 1,
 m 8 10]
def c144_0 : EC := .rg c144_0l false
@[simp] theorem c144_0e : Rg c144_0 c144_0l false := rgE _ _
@[simp] def c144_1l : List EO := [m 11 8,
 o 12 (.bin .mul) [i 2, t 11],
 o 13 (.bin .add) [t 12, i 1],
 m 9 13]
def c144_1 : EC := .rg c144_1l false
@[simp] theorem c144_1e : Rg c144_1 c144_1l false := rgE _ _
@[simp] def c144_2l : List EO := [m 14 9,
 m 15 2,
 o 16 (.bin .geq) [t 14, t 15]]
def c144_2 : EC := .rg c144_2l false
@[simp] theorem c144_2e : Rg c144_2 c144_2l false := rgE _ _
def c144_3 : EC := .cd (t 16) (.ex 0) .skip
@[simp] theorem c144_3e : Cd c144_3 (t 16) (.ex 0) .skip := cdE _ _ _
def c144_4 : EC := .sq c144_2 c144_3
@[simp] theorem c144_4e : Sq c144_4 c144_2 c144_3 := sqE _ _
@[simp] def c144_5l : List EO := [m 17 9,
 o 18 (.bin .add) [t 17, i 1],
 m 19 2,
 o 20 (.bin .lss) [t 18, t 19],
 m 21 20,
 y 22 21 .mv [t 0],
 y 23 21 .mv [t 3],
 y 24 21 .mv [t 9],
 y 25 21 (.bin .add) [t 23, t 24],
 y 26 21 (.iaS 1) [t 22, t 25],
 y 27 21 (.load 1 false) [t 26],
 y 28 21 .mv [t 0],
 y 29 21 .mv [t 3],
 y 30 21 .mv [t 9],
 y 31 21 (.bin .add) [t 29, t 30],
 y 32 21 (.bin .add) [t 31, i 1],
 y 33 21 (.iaS 1) [t 28, t 32],
 y 34 21 (.load 1 false) [t 33],
 y 35 21 (.call 129) [t 27, t 34],
 o 36 .pick [t 21, t 35, b false]]
def c144_5 : EC := .rg c144_5l true
@[simp] theorem c144_5e : Rg c144_5 c144_5l true := rgE _ _
@[simp] def c144_6l : List EO := [m 37 9,
 o 38 (.bin .add) [t 37, i 1],
 m 9 38]
def c144_6 : EC := .rg c144_6l false
@[simp] theorem c144_6e : Rg c144_6 c144_6l false := rgE _ _
def c144_7 : EC := .cd (t 36) c144_6 .skip
@[simp] theorem c144_7e : Cd c144_7 (t 36) c144_6 .skip := cdE _ _ _
def c144_8 : EC := .sq c144_5 c144_7
@[simp] theorem c144_8e : Sq c144_8 c144_5 c144_7 := sqE _ _
@[simp] def c144_9l : List EO := [m 39 0,
 m 40 3,
 m 41 8,
 o 42 (.bin .add) [t 40, t 41],
 o 43 (.iaS 1) [t 39, t 42],
 o 44 (.load 1 false) [t 43],
 m 45 0,
 m 46 3,
 m 47 9,
 o 48 (.bin .add) [t 46, t 47],
 o 49 (.iaS 1) [t 45, t 48],
 o 50 (.load 1 false) [t 49],
 o 51 (.call 129) [t 44, t 50],
 o 52 (.un .not) [t 51]]
def c144_9 : EC := .rg c144_9l true
@[simp] theorem c144_9e : Rg c144_9 c144_9l true := rgE _ _
def c144_10 : EC := .cd (t 52) .rt .skip
@[simp] theorem c144_10e : Cd c144_10 (t 52) .rt .skip := cdE _ _ _
def c144_11 : EC := .sq c144_9 c144_10
@[simp] theorem c144_11e : Sq c144_11 c144_9 c144_10 := sqE _ _
@[simp] def c144_12l : List EO := [m 53 0,
 m 54 3,
 m 55 8,
 o 56 (.bin .add) [t 54, t 55],
 m 57 0,
 m 58 3,
 m 59 9,
 o 60 (.bin .add) [t 58, t 59],
 m 61 0,
 m 62 3,
 m 63 9,
 o 64 (.bin .add) [t 62, t 63],
 o 65 (.iaS 1) [t 61, t 64],
 o 66 (.load 1 false) [t 65],
 m 67 0,
 m 68 3,
 m 69 8,
 o 70 (.bin .add) [t 68, t 69],
 o 71 (.iaS 1) [t 67, t 70],
 o 72 (.load 1 false) [t 71],
 o 73 (.iaS 1) [t 53, t 56],
 u (.store 1) [t 73, t 66],
 o 74 (.iaS 1) [t 57, t 60],
 u (.store 1) [t 74, t 72]]
def c144_12 : EC := .rg c144_12l true
@[simp] theorem c144_12e : Rg c144_12 c144_12l true := rgE _ _
@[simp] def c144_13l : List EO := [m 75 9,
 m 8 75]
def c144_13 : EC := .rg c144_13l false
@[simp] theorem c144_13e : Rg c144_13 c144_13l false := rgE _ _
def c144_14 : EC := .sq c144_12 c144_13
@[simp] theorem c144_14e : Sq c144_14 c144_12 c144_13 := sqE _ _
def c144_15 : EC := .sq c144_11 c144_14
@[simp] theorem c144_15e : Sq c144_15 c144_11 c144_14 := sqE _ _
def c144_16 : EC := .sq c144_8 c144_15
@[simp] theorem c144_16e : Sq c144_16 c144_8 c144_15 := sqE _ _
def c144_17 : EC := .sq c144_4 c144_16
@[simp] theorem c144_17e : Sq c144_17 c144_4 c144_16 := sqE _ _
def c144_18 : EC := .sq c144_1 c144_17
@[simp] theorem c144_18e : Sq c144_18 c144_1 c144_17 := sqE _ _
def c144_19 : EC := .bk 1 c144_18
@[simp] theorem c144_19e : Bk c144_19 1 c144_18 := bkE _ _
def c144_20 : EC := .bk 0 (.lp c144_19)
@[simp] theorem c144_20e : Bk c144_20 0 (.lp c144_19) := bkE _ _
def c144_21 : EC := .sq c144_0 c144_20
@[simp] theorem c144_21e : Sq c144_21 c144_0 c144_20 := sqE _ _
def c_slices_siftDownOrdered_int__144 : EC := c144_21
theorem k_144 : ecF Tryd.prog 144 = some (76, c_slices_siftDownOrdered_int__144, []) := by kernel_rfl

/-- slices.medianAdjacentOrdered[int] -/
@[simp] def c147_0l : List EO := [o 6 .mv [i 0]]
def c147_0 : EC := .rg c147_0l false
@[simp] theorem c147_0e : Rg c147_0 c147_0l false := rgE _ _
@[simp] def c147_1l : List EO := [m 7 0,
 m 8 1,
 o 9 (.bin .sub) [t 8, i 1],
 m 10 1,
 m 11 1,
 o 12 (.bin .add) [t 11, i 1],
 m 13 2,
 o 14 (.call 148) [t 7, t 9, t 10, t 12, t 13],
 m 6 14]
def c147_1 : EC := .rg c147_1l false
@[simp] theorem c147_1e : Rg c147_1 c147_1l false := rgE _ _
def c147_2 : EC := .sq c147_1 .rt
@[simp] theorem c147_2e : Sq c147_2 c147_1 .rt := sqE _ _
def c147_3 : EC := .sq c147_0 c147_2
@[simp] theorem c147_3e : Sq c147_3 c147_0 c147_2 := sqE _ _
def c_slices_medianAdjacentOrdered_int__147 : EC := c147_3
theorem k_147 : ecF Tryd.prog 147 = some (15, c_slices_medianAdjacentOrdered_int__147, [.tm 6]) := by kernel_rfl

/-- slices.medianOrdered[int] -/
@[simp] def c148_0l : List EO := [o 10 .mv [i 0]]
def c148_0 : EC := .rg c148_0l false
@[simp] theorem c148_0e : Rg c148_0 c148_0l false := rgE _ _
@[simp] def c148_1l : List EO := [m 12 0,
 m 13 1,
 m 14 2,
 m 15 4,
 o 16 (.call 161) [t 12, t 13, t 14, t 15],
 m 11 16,
 o 17 (.ext 0) [t 11],
 o 18 (.ext 1) [t 11],
 m 1 17,
 m 2 18]
def c148_1 : EC := .rg c148_1l false
@[simp] theorem c148_1e : Rg c148_1 c148_1l false := rgE _ _
@[simp] def c148_2l : List EO := [m 20 0,
 m 21 2,
 m 22 3,
 m 23 4,
 o 24 (.call 161) [t 20, t 21, t 22, t 23],
 m 19 24,
 o 25 (.ext 0) [t 19],
 o 26 (.ext 1) [t 19],
 m 2 25,
 m 3 26]
def c148_2 : EC := .rg c148_2l false
@[simp] theorem c148_2e : Rg c148_2 c148_2l false := rgE _ _
@[simp] def c148_3l : List EO := [m 28 0,
 m 29 1,
 m 30 2,
 m 31 4,
 o 32 (.call 161) [t 28, t 29, t 30, t 31],
 m 27 32,
 o 33 (.ext 0) [t 27],
 o 34 (.ext 1) [t 27],
 m 1 33,
 m 2 34]
def c148_3 : EC := .rg c148_3l false
@[simp] theorem c148_3e : Rg c148_3 c148_3l false := rgE _ _
@[simp] def c148_4l : List EO := [m 35 2,
 m 10 35]
def c148_4 : EC := .rg c148_4l false
@[simp] theorem c148_4e : Rg c148_4 c148_4l false := rgE _ _
def c148_5 : EC := .sq c148_4 .rt
@[simp] theorem c148_5e : Sq c148_5 c148_4 .rt := sqE _ _
def c148_6 : EC := .sq c148_3 c148_5
@[simp] theorem c148_6e : Sq c148_6 c148_3 c148_5 := sqE _ _
def c148_7 : EC := .sq c148_2 c148_6
@[simp] theorem c148_7e : Sq c148_7 c148_2 c148_6 := sqE _ _
def c148_8 : EC := .sq c148_1 c148_7
@[simp] theorem c148_8e : Sq c148_8 c148_1 c148_7 := sqE _ _
def c148_9 : EC := .sq c148_0 c148_8
@[simp] theorem c148_9e : Sq c148_9 c148_0 c148_8 := sqE _ _
def c_slices_medianOrdered_int__148 : EC := c148_9
theorem k_148 : ecF Tryd.prog 148 = some (36, c_slices_medianOrdered_int__148, [.tm 10]) := by kernel_rfl

/-- cmp.isNaN[int] -/
@[simp] def c149_0l : List EO := [o 2 .mv [b false]]
def c149_0 : EC := .rg c149_0l false
@[simp] theorem c149_0e : Rg c149_0 c149_0l false := rgE _ _
@[simp] def c149_1l : List EO := [m 3 0,
 m 4 0,
 o 5 (.bin .neq) [t 3, t 4],
 m 2 5]
def c149_1 : EC := .rg c149_1l false
@[simp] theorem c149_1e : Rg c149_1 c149_1l false := rgE _ _
def c149_2 : EC := .sq c149_1 .rt
@[simp] theorem c149_2e : Sq c149_2 c149_1 .rt := sqE _ _
def c149_3 : EC := .sq c149_0 c149_2
@[simp] theorem c149_3e : Sq c149_3 c149_0 c149_2 := sqE _ _
def c_cmp_isNaN_int__149 : EC := c149_3
theorem k_149 : ecF Tryd.prog 149 = some (6, c_cmp_isNaN_int__149, [.tm 2]) := by kernel_rfl

/-- tallystone/token.letter -/
@[simp] def c150_0l : List EO := [o 2 .mv [b false]]
def c150_0 : EC := .rg c150_0l false
@[simp] theorem c150_0e : Rg c150_0 c150_0l false := rgE _ _
@[simp] def c150_1l : List EO := [m 3 0,
 o 4 (.bin .geq) [t 3, c (.t (.int .u8 97))],
 m 5 4,
 y 6 5 .mv [t 0],
 y 7 5 (.bin .leq) [t 6, c (.t (.int .u8 122))],
 o 8 .pick [t 5, t 7, b false],
 m 2 8]
def c150_1 : EC := .rg c150_1l false
@[simp] theorem c150_1e : Rg c150_1 c150_1l false := rgE _ _
def c150_2 : EC := .sq c150_1 .rt
@[simp] theorem c150_2e : Sq c150_2 c150_1 .rt := sqE _ _
def c150_3 : EC := .sq c150_0 c150_2
@[simp] theorem c150_3e : Sq c150_3 c150_0 c150_2 := sqE _ _
def c_token_letter_150 : EC := c150_3
theorem k_150 : ecF Tryd.prog 150 = some (9, c_token_letter_150, [.tm 2]) := by kernel_rfl

/-- tallystone/token.run -/
@[simp] def c151_0l : List EO := [o 4 .mv [i 0]]
def c151_0 : EC := .rg c151_0l false
@[simp] theorem c151_0e : Rg c151_0 c151_0l false := rgE _ _
@[simp] def c151_1l : List EO := [m 6 0,
 o 7 .lenS [t 6],
 o 8 .mv [i 0]]
def c151_1 : EC := .rg c151_1l false
@[simp] theorem c151_1e : Rg c151_1 c151_1l false := rgE _ _
@[simp] def c151_2l : List EO := [o 9 (.bin .lss) [t 8, t 7]]
def c151_2 : EC := .rg c151_2l false
@[simp] theorem c151_2e : Rg c151_2 c151_2l false := rgE _ _
def c151_3 : EC := .cd (t 9) .skip (.ex 0)
@[simp] theorem c151_3e : Cd c151_3 (t 9) .skip (.ex 0) := cdE _ _ _
@[simp] def c151_4l : List EO := [m 10 8,
 m 5 10]
def c151_4 : EC := .rg c151_4l false
@[simp] theorem c151_4e : Rg c151_4 c151_4l false := rgE _ _
@[simp] def c151_5l : List EO := [m 11 1,
 m 12 0,
 m 13 5,
 o 14 .ixS [t 12, t 13],
 o 15 .callv [t 11, t 14],
 o 16 (.un .not) [t 15]]
def c151_5 : EC := .rg c151_5l false
@[simp] theorem c151_5e : Rg c151_5 c151_5l false := rgE _ _
@[simp] def c151_6l : List EO := [m 17 5,
 m 4 17]
def c151_6 : EC := .rg c151_6l false
@[simp] theorem c151_6e : Rg c151_6 c151_6l false := rgE _ _
def c151_7 : EC := .sq c151_6 .rt
@[simp] theorem c151_7e : Sq c151_7 c151_6 .rt := sqE _ _
def c151_8 : EC := .cd (t 16) c151_7 .skip
@[simp] theorem c151_8e : Cd c151_8 (t 16) c151_7 .skip := cdE _ _ _
def c151_9 : EC := .sq c151_5 c151_8
@[simp] theorem c151_9e : Sq c151_9 c151_5 c151_8 := sqE _ _
def c151_10 : EC := .sq c151_4 c151_9
@[simp] theorem c151_10e : Sq c151_10 c151_4 c151_9 := sqE _ _
def c151_11 : EC := .bk 1 c151_10
@[simp] theorem c151_11e : Bk c151_11 1 c151_10 := bkE _ _
@[simp] def c151_12l : List EO := [o 18 (.bin .add) [t 8, i 1],
 m 8 18]
def c151_12 : EC := .rg c151_12l false
@[simp] theorem c151_12e : Rg c151_12 c151_12l false := rgE _ _
def c151_13 : EC := .sq c151_11 c151_12
@[simp] theorem c151_13e : Sq c151_13 c151_11 c151_12 := sqE _ _
def c151_14 : EC := .sq c151_3 c151_13
@[simp] theorem c151_14e : Sq c151_14 c151_3 c151_13 := sqE _ _
def c151_15 : EC := .sq c151_2 c151_14
@[simp] theorem c151_15e : Sq c151_15 c151_2 c151_14 := sqE _ _
def c151_16 : EC := .bk 0 (.lp c151_15)
@[simp] theorem c151_16e : Bk c151_16 0 (.lp c151_15) := bkE _ _
def c151_17 : EC := .sq c151_1 c151_16
@[simp] theorem c151_17e : Sq c151_17 c151_1 c151_16 := sqE _ _
@[simp] def c151_18l : List EO := [m 19 0,
 o 20 .lenS [t 19],
 m 4 20]
def c151_18 : EC := .rg c151_18l false
@[simp] theorem c151_18e : Rg c151_18 c151_18l false := rgE _ _
def c151_19 : EC := .sq c151_18 .rt
@[simp] theorem c151_19e : Sq c151_19 c151_18 .rt := sqE _ _
def c151_20 : EC := .sq c151_17 c151_19
@[simp] theorem c151_20e : Sq c151_20 c151_17 c151_19 := sqE _ _
def c151_21 : EC := .sq c151_0 c151_20
@[simp] theorem c151_21e : Sq c151_21 c151_0 c151_20 := sqE _ _
def c_token_run_151 : EC := c151_21
theorem k_151 : ecF Tryd.prog 151 = some (21, c_token_run_151, [.tm 4]) := by kernel_rfl

/-- tallystone/token.next$1 -/
@[simp] def c152_0l : List EO := [o 2 .mv [b false]]
def c152_0 : EC := .rg c152_0l false
@[simp] theorem c152_0e : Rg c152_0 c152_0l false := rgE _ _
@[simp] def c152_1l : List EO := [m 3 0,
 o 4 (.call 150) [t 3],
 m 5 4,
 n 6 5 .mv [t 0],
 n 7 5 (.call 153) [t 6],
 o 8 .pick [t 5, b true, t 7],
 m 9 8,
 n 10 9 .mv [t 0],
 n 11 9 (.bin .eql) [t 10, c (.t (.int .u8 95))],
 o 12 .pick [t 9, b true, t 11],
 m 2 12]
def c152_1 : EC := .rg c152_1l false
@[simp] theorem c152_1e : Rg c152_1 c152_1l false := rgE _ _
def c152_2 : EC := .sq c152_1 .rt
@[simp] theorem c152_2e : Sq c152_2 c152_1 .rt := sqE _ _
def c152_3 : EC := .sq c152_0 c152_2
@[simp] theorem c152_3e : Sq c152_3 c152_0 c152_2 := sqE _ _
def c_token_nextS1_152 : EC := c152_3
theorem k_152 : ecF Tryd.prog 152 = some (13, c_token_nextS1_152, [.tm 2]) := by kernel_rfl

/-- tallystone/token.digit -/
@[simp] def c153_0l : List EO := [o 2 .mv [b false]]
def c153_0 : EC := .rg c153_0l false
@[simp] theorem c153_0e : Rg c153_0 c153_0l false := rgE _ _
@[simp] def c153_1l : List EO := [m 3 0,
 o 4 (.bin .geq) [t 3, c (.t (.int .u8 48))],
 m 5 4,
 y 6 5 .mv [t 0],
 y 7 5 (.bin .leq) [t 6, c (.t (.int .u8 57))],
 o 8 .pick [t 5, t 7, b false],
 m 2 8]
def c153_1 : EC := .rg c153_1l false
@[simp] theorem c153_1e : Rg c153_1 c153_1l false := rgE _ _
def c153_2 : EC := .sq c153_1 .rt
@[simp] theorem c153_2e : Sq c153_2 c153_1 .rt := sqE _ _
def c153_3 : EC := .sq c153_0 c153_2
@[simp] theorem c153_3e : Sq c153_3 c153_0 c153_2 := sqE _ _
def c_token_digit_153 : EC := c153_3
theorem k_153 : ecF Tryd.prog 153 = some (9, c_token_digit_153, [.tm 2]) := by kernel_rfl

/-- slices.Contains[[]string,string] -/
@[simp] def c154_0l : List EO := [o 4 .mv [b false]]
def c154_0 : EC := .rg c154_0l false
@[simp] theorem c154_0e : Rg c154_0 c154_0l false := rgE _ _
@[simp] def c154_1l : List EO := [m 5 0,
 m 6 1,
 o 7 (.call 162) [t 5, t 6],
 o 8 (.bin .geq) [t 7, i 0],
 m 4 8]
def c154_1 : EC := .rg c154_1l false
@[simp] theorem c154_1e : Rg c154_1 c154_1l false := rgE _ _
def c154_2 : EC := .sq c154_1 .rt
@[simp] theorem c154_2e : Sq c154_2 c154_1 .rt := sqE _ _
def c154_3 : EC := .sq c154_0 c154_2
@[simp] theorem c154_3e : Sq c154_3 c154_0 c154_2 := sqE _ _
def c_slices_Contains___string_string__154 : EC := c154_3
theorem k_154 : ecF Tryd.prog 154 = some (9, c_slices_Contains___string_string__154, [.tm 4]) := by kernel_rfl

/-- strings.IndexByte -/
@[simp] def c156_0l : List EO := [o 4 .mv [i 0]]
def c156_0 : EC := .rg c156_0l false
@[simp] theorem c156_0e : Rg c156_0 c156_0l false := rgE _ _
@[simp] def c156_1l : List EO := [m 5 0,
 m 6 1,
 o 7 (.call 165) [t 5, t 6],
 m 4 7]
def c156_1 : EC := .rg c156_1l false
@[simp] theorem c156_1e : Rg c156_1 c156_1l false := rgE _ _
def c156_2 : EC := .sq c156_1 .rt
@[simp] theorem c156_2e : Sq c156_2 c156_1 .rt := sqE _ _
def c156_3 : EC := .sq c156_0 c156_2
@[simp] theorem c156_3e : Sq c156_3 c156_0 c156_2 := sqE _ _
def c_strings_IndexByte_156 : EC := c156_3
theorem k_156 : ecF Tryd.prog 156 = some (8, c_strings_IndexByte_156, [.tm 4]) := by kernel_rfl

/-- internal/strconv.bool2[int] -/
@[simp] def c158_0l : List EO := [o 2 .mv [i 0]]
def c158_0 : EC := .rg c158_0l false
@[simp] theorem c158_0e : Rg c158_0 c158_0l false := rgE _ _
@[simp] def c158_1l : List EO := [m 3 0]
def c158_1 : EC := .rg c158_1l false
@[simp] theorem c158_1e : Rg c158_1 c158_1l false := rgE _ _
@[simp] def c158_2l : List EO := [o 2 .mv [i 1]]
def c158_2 : EC := .rg c158_2l false
@[simp] theorem c158_2e : Rg c158_2 c158_2l false := rgE _ _
def c158_3 : EC := .sq c158_2 .rt
@[simp] theorem c158_3e : Sq c158_3 c158_2 .rt := sqE _ _
def c158_4 : EC := .cd (t 3) c158_3 .skip
@[simp] theorem c158_4e : Cd c158_4 (t 3) c158_3 .skip := cdE _ _ _
def c158_5 : EC := .sq c158_1 c158_4
@[simp] theorem c158_5e : Sq c158_5 c158_1 c158_4 := sqE _ _
@[simp] def c158_6l : List EO := [o 2 .mv [i 0]]
def c158_6 : EC := .rg c158_6l false
@[simp] theorem c158_6e : Rg c158_6 c158_6l false := rgE _ _
def c158_7 : EC := .sq c158_6 .rt
@[simp] theorem c158_7e : Sq c158_7 c158_6 .rt := sqE _ _
def c158_8 : EC := .sq c158_5 c158_7
@[simp] theorem c158_8e : Sq c158_8 c158_5 c158_7 := sqE _ _
def c158_9 : EC := .sq c158_0 c158_8
@[simp] theorem c158_9e : Sq c158_9 c158_0 c158_8 := sqE _ _
def c_strconv_bool2_int__158 : EC := c158_9
theorem k_158 : ecF Tryd.prog 158 = some (4, c_strconv_bool2_int__158, [.tm 2]) := by kernel_rfl

/-- internal/strconv.isPowerOfTwo -/
@[simp] def c159_0l : List EO := [o 2 .mv [b false]]
def c159_0 : EC := .rg c159_0l false
@[simp] theorem c159_0e : Rg c159_0 c159_0l false := rgE _ _
@[simp] def c159_1l : List EO := [m 3 0,
 m 4 0,
 o 5 (.bin .sub) [t 4, i 1],
 o 6 (.bin .and) [t 3, t 5],
 o 7 (.bin .eql) [t 6, i 0],
 m 2 7]
def c159_1 : EC := .rg c159_1l false
@[simp] theorem c159_1e : Rg c159_1 c159_1l false := rgE _ _
def c159_2 : EC := .sq c159_1 .rt
@[simp] theorem c159_2e : Sq c159_2 c159_1 .rt := sqE _ _
def c159_3 : EC := .sq c159_0 c159_2
@[simp] theorem c159_3e : Sq c159_3 c159_0 c159_2 := sqE _ _
def c_strconv_isPowerOfTwo_159 : EC := c159_3
theorem k_159 : ecF Tryd.prog 159 = some (8, c_strconv_isPowerOfTwo_159, [.tm 2]) := by kernel_rfl

/-- math/bits.TrailingZeros -/
@[simp] def c160_0l : List EO := [o 2 .mv [i 0]]
def c160_0 : EC := .rg c160_0l false
@[simp] theorem c160_0e : Rg c160_0 c160_0l false := rgE _ _
@[simp] def c160_1l : List EO := [m 3 0,
 o 4 (.cvI .u32) [t 3],
 o 5 (.call 166) [t 4],
 m 2 5]
def c160_1 : EC := .rg c160_1l false
@[simp] theorem c160_1e : Rg c160_1 c160_1l false := rgE _ _
def c160_2 : EC := .sq c160_1 .rt
@[simp] theorem c160_2e : Sq c160_2 c160_1 .rt := sqE _ _
def c160_3 : EC := .cd (b false) c160_2 .skip
@[simp] theorem c160_3e : Cd c160_3 (b false) c160_2 .skip := cdE _ _ _
@[simp] def c160_4l : List EO := [m 6 0,
 o 7 (.call 167) [t 6],
 m 2 7]
def c160_4 : EC := .rg c160_4l false
@[simp] theorem c160_4e : Rg c160_4 c160_4l false := rgE _ _
def c160_5 : EC := .sq c160_4 .rt
@[simp] theorem c160_5e : Sq c160_5 c160_4 .rt := sqE _ _
def c160_6 : EC := .sq c160_3 c160_5
@[simp] theorem c160_6e : Sq c160_6 c160_3 c160_5 := sqE _ _
def c160_7 : EC := .sq c160_0 c160_6
@[simp] theorem c160_7e : Sq c160_7 c160_0 c160_6 := sqE _ _
def c_bits_TrailingZeros_160 : EC := c160_7
theorem k_160 : ecF Tryd.prog 160 = some (8, c_bits_TrailingZeros_160, [.tm 2]) := by kernel_rfl

/-- slices.order2Ordered[int] -/
@[simp] def c161_0l : List EO := [o 8 .mv [i 0],
 o 9 .mv [i 0]]
def c161_0 : EC := .rg c161_0l false
@[simp] theorem c161_0e : Rg c161_0 c161_0l false := rgE _ _
@[simp] def c161_1l : List EO := [m 10 0,
 m 11 2,
 o 12 (.iaS 1) [t 10, t 11],
 o 13 (.load 1 false) [t 12],
 m 14 0,
 m 15 1,
 o 16 (.iaS 1) [t 14, t 15],
 o 17 (.load 1 false) [t 16]]
def c161_1 : EC := .rg c161_1l true
@[simp] theorem c161_1e : Rg c161_1 c161_1l true := rgE _ _
@[simp] def c161_2l : List EO := [o 18 (.call 129) [t 13, t 17]]
def c161_2 : EC := .rg c161_2l false
@[simp] theorem c161_2e : Rg c161_2 c161_2l false := rgE _ _
def c161_3 : EC := .sq c161_1 c161_2
@[simp] theorem c161_3e : Sq c161_3 c161_1 c161_2 := sqE _ _
@[simp] def c161_4l : List EO := [m 19 3,
 o 20 .nilc [t 19],
 o 21 (.load 1 false) [t 20],
 o 22 (.bin .add) [t 21, i 1],
 o 23 .nilc [t 19],
 u (.store 1) [t 23, t 22]]
def c161_4 : EC := .rg c161_4l false
@[simp] theorem c161_4e : Rg c161_4 c161_4l false := rgE _ _
@[simp] def c161_5l : List EO := [m 24 2,
 m 25 1,
 m 8 24,
 m 9 25]
def c161_5 : EC := .rg c161_5l false
@[simp] theorem c161_5e : Rg c161_5 c161_5l false := rgE _ _
def c161_6 : EC := .sq c161_5 .rt
@[simp] theorem c161_6e : Sq c161_6 c161_5 .rt := sqE _ _
def c161_7 : EC := .sq c161_4 c161_6
@[simp] theorem c161_7e : Sq c161_7 c161_4 c161_6 := sqE _ _
def c161_8 : EC := .cd (t 18) c161_7 .skip
@[simp] theorem c161_8e : Cd c161_8 (t 18) c161_7 .skip := cdE _ _ _
def c161_9 : EC := .sq c161_3 c161_8
@[simp] theorem c161_9e : Sq c161_9 c161_3 c161_8 := sqE _ _
@[simp] def c161_10l : List EO := [m 26 1,
 m 27 2,
 m 8 26,
 m 9 27]
def c161_10 : EC := .rg c161_10l false
@[simp] theorem c161_10e : Rg c161_10 c161_10l false := rgE _ _
def c161_11 : EC := .sq c161_10 .rt
@[simp] theorem c161_11e : Sq c161_11 c161_10 .rt := sqE _ _
def c161_12 : EC := .sq c161_9 c161_11
@[simp] theorem c161_12e : Sq c161_12 c161_9 c161_11 := sqE _ _
def c161_13 : EC := .sq c161_0 c161_12
@[simp] theorem c161_13e : Sq c161_13 c161_0 c161_12 := sqE _ _
def c_slices_order2Ordered_int__161 : EC := c161_13
theorem k_161 : ecF Tryd.prog 161 = some (28, c_slices_order2Ordered_int__161, [.tm 8, .tm 9]) := by kernel_rfl

/-- slices.Index[[]string,string] -/
@[simp] def c162_0l : List EO := [o 4 .mv [i 0]]
def c162_0 : EC := .rg c162_0l false
@[simp] theorem c162_0e : Rg c162_0 c162_0l false := rgE _ _
@[simp] def c162_1l : List EO := [m 6 0,
 o 7 .lenL [t 6],
 o 8 .mv [i 0]]
def c162_1 : EC := .rg c162_1l false
@[simp] theorem c162_1e : Rg c162_1 c162_1l false := rgE _ _
@[simp] def c162_2l : List EO := [o 9 (.bin .lss) [t 8, t 7]]
def c162_2 : EC := .rg c162_2l false
@[simp] theorem c162_2e : Rg c162_2 c162_2l false := rgE _ _
def c162_3 : EC := .cd (t 9) .skip (.ex 0)
@[simp] theorem c162_3e : Cd c162_3 (t 9) .skip (.ex 0) := cdE _ _ _
@[simp] def c162_4l : List EO := [m 10 8,
 m 5 10]
def c162_4 : EC := .rg c162_4l false
@[simp] theorem c162_4e : Rg c162_4 c162_4l false := rgE _ _
@[simp] def c162_5l : List EO := [m 11 1,
 m 12 0,
 m 13 5,
 o 14 (.iaS 1) [t 12, t 13],
 o 15 (.load 1 false) [t 14],
 o 16 (.bin .eql) [t 11, t 15]]
def c162_5 : EC := .rg c162_5l false
@[simp] theorem c162_5e : Rg c162_5 c162_5l false := rgE _ _
@[simp] def c162_6l : List EO := [m 17 5,
 m 4 17]
def c162_6 : EC := .rg c162_6l false
@[simp] theorem c162_6e : Rg c162_6 c162_6l false := rgE _ _
def c162_7 : EC := .sq c162_6 .rt
@[simp] theorem c162_7e : Sq c162_7 c162_6 .rt := sqE _ _
def c162_8 : EC := .cd (t 16) c162_7 .skip
@[simp] theorem c162_8e : Cd c162_8 (t 16) c162_7 .skip := cdE _ _ _
def c162_9 : EC := .sq c162_5 c162_8
@[simp] theorem c162_9e : Sq c162_9 c162_5 c162_8 := sqE _ _
def c162_10 : EC := .sq c162_4 c162_9
@[simp] theorem c162_10e : Sq c162_10 c162_4 c162_9 := sqE _ _
def c162_11 : EC := .bk 1 c162_10
@[simp] theorem c162_11e : Bk c162_11 1 c162_10 := bkE _ _
@[simp] def c162_12l : List EO := [o 18 (.bin .add) [t 8, i 1],
 m 8 18]
def c162_12 : EC := .rg c162_12l false
@[simp] theorem c162_12e : Rg c162_12 c162_12l false := rgE _ _
def c162_13 : EC := .sq c162_11 c162_12
@[simp] theorem c162_13e : Sq c162_13 c162_11 c162_12 := sqE _ _
def c162_14 : EC := .sq c162_3 c162_13
@[simp] theorem c162_14e : Sq c162_14 c162_3 c162_13 := sqE _ _
def c162_15 : EC := .sq c162_2 c162_14
@[simp] theorem c162_15e : Sq c162_15 c162_2 c162_14 := sqE _ _
def c162_16 : EC := .bk 0 (.lp c162_15)
@[simp] theorem c162_16e : Bk c162_16 0 (.lp c162_15) := bkE _ _
def c162_17 : EC := .sq c162_1 c162_16
@[simp] theorem c162_17e : Sq c162_17 c162_1 c162_16 := sqE _ _
@[simp] def c162_18l : List EO := [o 4 .mv [i (-1)]]
def c162_18 : EC := .rg c162_18l false
@[simp] theorem c162_18e : Rg c162_18 c162_18l false := rgE _ _
def c162_19 : EC := .sq c162_18 .rt
@[simp] theorem c162_19e : Sq c162_19 c162_18 .rt := sqE _ _
def c162_20 : EC := .sq c162_17 c162_19
@[simp] theorem c162_20e : Sq c162_20 c162_17 c162_19 := sqE _ _
def c162_21 : EC := .sq c162_0 c162_20
@[simp] theorem c162_21e : Sq c162_21 c162_0 c162_20 := sqE _ _
def c_slices_Index___string_string__162 : EC := c162_21
theorem k_162 : ecF Tryd.prog 162 = some (19, c_slices_Index___string_string__162, [.tm 4]) := by kernel_rfl

/-- internal/stringslite.IndexByte -/
@[simp] def c165_0l : List EO := [o 4 .mv [i 0]]
def c165_0 : EC := .rg c165_0l false
@[simp] theorem c165_0e : Rg c165_0 c165_0l false := rgE _ _
@[simp] def c165_1l : List EO := [m 5 0,
 m 6 1,
 o 7 (.call 169) [t 5, t 6],
 m 4 7]
def c165_1 : EC := .rg c165_1l false
@[simp] theorem c165_1e : Rg c165_1 c165_1l false := rgE _ _
def c165_2 : EC := .sq c165_1 .rt
@[simp] theorem c165_2e : Sq c165_2 c165_1 .rt := sqE _ _
def c165_3 : EC := .sq c165_0 c165_2
@[simp] theorem c165_3e : Sq c165_3 c165_0 c165_2 := sqE _ _
def c_stringslite_IndexByte_165 : EC := c165_3
theorem k_165 : ecF Tryd.prog 165 = some (8, c_stringslite_IndexByte_165, [.tm 4]) := by kernel_rfl

/-- unicode.isExcludingLatin -/
@[simp] def c168_0l : List EO := [o 4 .mv [b false]]
def c168_0 : EC := .rg c168_0l false
@[simp] theorem c168_0e : Rg c168_0 c168_0l false := rgE _ _
@[simp] def c168_1l : List EO := [m 8 0,
 o 9 .nilc [t 8],
 o 10 (.faddr 0) [t 9],
 o 11 (.load 1 false) [t 10],
 m 5 11]
def c168_1 : EC := .rg c168_1l false
@[simp] theorem c168_1e : Rg c168_1 c168_1l false := rgE _ _
@[simp] def c168_2l : List EO := [m 12 0,
 o 13 .nilc [t 12],
 o 14 (.faddr 2) [t 13],
 o 15 (.load 1 false) [t 14],
 m 6 15]
def c168_2 : EC := .rg c168_2l false
@[simp] theorem c168_2e : Rg c168_2 c168_2l false := rgE _ _
@[simp] def c168_3l : List EO := [m 16 5,
 o 17 .lenL [t 16],
 m 18 6,
 o 19 (.bin .gtr) [t 17, t 18],
 m 20 19,
 y 21 20 .mv [t 1],
 y 22 20 (.cvI .u32) [t 21],
 y 23 20 .mv [t 5],
 y 24 20 .mv [t 5],
 y 25 20 .lenL [t 24],
 y 26 20 (.bin .sub) [t 25, i 1],
 y 27 20 (.iaS 3) [t 23, t 26],
 y 28 20 (.faddr 1) [t 27],
 y 29 20 (.load 1 false) [t 28],
 y 30 20 (.cvI .u32) [t 29],
 y 31 20 (.bin .leq) [t 22, t 30],
 o 32 .pick [t 20, t 31, b false]]
def c168_3 : EC := .rg c168_3l false
@[simp] theorem c168_3e : Rg c168_3 c168_3l false := rgE _ _
@[simp] def c168_4l : List EO := [m 33 5,
 m 34 6,
 o 35 (.slL 3 true false false) [t 33, t 34],
 m 36 1,
 o 37 (.cvI .u16) [t 36],
 o 38 (.call 170) [t 35, t 37],
 m 4 38]
def c168_4 : EC := .rg c168_4l false
@[simp] theorem c168_4e : Rg c168_4 c168_4l false := rgE _ _
def c168_5 : EC := .sq c168_4 .rt
@[simp] theorem c168_5e : Sq c168_5 c168_4 .rt := sqE _ _
def c168_6 : EC := .cd (t 32) c168_5 .skip
@[simp] theorem c168_6e : Cd c168_6 (t 32) c168_5 .skip := cdE _ _ _
def c168_7 : EC := .sq c168_3 c168_6
@[simp] theorem c168_7e : Sq c168_7 c168_3 c168_6 := sqE _ _
def c168_8 : EC := .sq c168_2 c168_7
@[simp] theorem c168_8e : Sq c168_8 c168_2 c168_7 := sqE _ _
@[simp] def c168_9l : List EO := [m 39 0,
 o 40 .nilc [t 39],
 o 41 (.faddr 1) [t 40],
 o 42 (.load 1 false) [t 41],
 m 7 42]
def c168_9 : EC := .rg c168_9l false
@[simp] theorem c168_9e : Rg c168_9 c168_9l false := rgE _ _
@[simp] def c168_10l : List EO := [m 43 7,
 o 44 .lenL [t 43],
 o 45 (.bin .gtr) [t 44, i 0],
 m 46 45,
 y 47 46 .mv [t 1],
 y 48 46 .mv [t 7],
 y 49 46 (.iaS 3) [t 48, i 0],
 y 50 46 (.faddr 0) [t 49],
 y 51 46 (.load 1 false) [t 50],
 y 52 46 (.cvI .i32) [t 51],
 y 53 46 (.bin .geq) [t 47, t 52],
 o 54 .pick [t 46, t 53, b false]]
def c168_10 : EC := .rg c168_10l false
@[simp] theorem c168_10e : Rg c168_10 c168_10l false := rgE _ _
@[simp] def c168_11l : List EO := [m 55 7,
 m 56 1,
 o 57 (.cvI .u32) [t 56],
 o 58 (.call 171) [t 55, t 57],
 m 4 58]
def c168_11 : EC := .rg c168_11l false
@[simp] theorem c168_11e : Rg c168_11 c168_11l false := rgE _ _
def c168_12 : EC := .sq c168_11 .rt
@[simp] theorem c168_12e : Sq c168_12 c168_11 .rt := sqE _ _
def c168_13 : EC := .cd (t 54) c168_12 .skip
@[simp] theorem c168_13e : Cd c168_13 (t 54) c168_12 .skip := cdE _ _ _
def c168_14 : EC := .sq c168_10 c168_13
@[simp] theorem c168_14e : Sq c168_14 c168_10 c168_13 := sqE _ _
@[simp] def c168_15l : List EO := [o 4 .mv [b false]]
def c168_15 : EC := .rg c168_15l false
@[simp] theorem c168_15e : Rg c168_15 c168_15l false := rgE _ _
def c168_16 : EC := .sq c168_15 .rt
@[simp] theorem c168_16e : Sq c168_16 c168_15 .rt := sqE _ _
def c168_17 : EC := .sq c168_14 c168_16
@[simp] theorem c168_17e : Sq c168_17 c168_14 c168_16 := sqE _ _
def c168_18 : EC := .sq c168_9 c168_17
@[simp] theorem c168_18e : Sq c168_18 c168_9 c168_17 := sqE _ _
def c168_19 : EC := .sq c168_8 c168_18
@[simp] theorem c168_19e : Sq c168_19 c168_8 c168_18 := sqE _ _
def c168_20 : EC := .sq c168_1 c168_19
@[simp] theorem c168_20e : Sq c168_20 c168_1 c168_19 := sqE _ _
def c168_21 : EC := .sq c168_0 c168_20
@[simp] theorem c168_21e : Sq c168_21 c168_0 c168_20 := sqE _ _
def c_unicode_isExcludingLatin_168 : EC := c168_21
theorem k_168 : ecF Tryd.prog 168 = some (59, c_unicode_isExcludingLatin_168, [.tm 4]) := by kernel_rfl
end Go.Proofs.YtkapabohpfkcoaaDoor
