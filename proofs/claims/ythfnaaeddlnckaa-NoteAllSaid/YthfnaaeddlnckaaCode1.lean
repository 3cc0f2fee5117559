/- The code of the functions of this seat, as the engine reads it; printed by program out of the translation, checked by the kernel. -/
import Derived.Test.YthfnaaeddlnckaaEd
import Derived.Test.YthfnaaeddlnckaaProg
set_option linter.unusedSimpArgs false
set_option linter.unusedVariables false
namespace Go.Proofs.Ythfnaaeddlnckaa
open Go.Proofs E E.Z
variable {P : Program} {nb nt : Nat} {Q : Ex → Fr → St → Prop} {a : Fr} {S : St}
/-- tallystone/tallystoneref52.Few -/
@[simp] def c30_0l : List EO := [o 1 .box [t 0],
 o 2 .mv [b false]]
def c30_0 : EC := .rg c30_0l false
@[simp] theorem c30_0e : Rg c30_0 c30_0l false := rgE _ _
@[simp] def c30_1l : List EO := [o 3 .mv [i 0]]
def c30_1 : EC := .rg c30_1l false
@[simp] theorem c30_1e : Rg c30_1 c30_1l false := rgE _ _
@[simp] def c30_2l : List EO := [m 7 3,
 o 8 (.faddr 1) [t 1],
 o 9 (.load 1 false) [t 8],
 o 10 .lenL [t 9],
 o 11 (.bin .lss) [t 7, t 10]]
def c30_2 : EC := .rg c30_2l false
@[simp] theorem c30_2e : Rg c30_2 c30_2l false := rgE _ _
def c30_3 : EC := .cd (t 11) .skip (.ex 0)
@[simp] theorem c30_3e : Cd c30_3 (t 11) .skip (.ex 0) := cdE _ _ _
def c30_4 : EC := .sq c30_2 c30_3
@[simp] theorem c30_4e : Sq c30_4 c30_2 c30_3 := sqE _ _
@[simp] def c30_5l : List EO := [o 14 (.faddr 1) [t 1],
 o 15 (.load 1 false) [t 14],
 m 16 3,
 o 17 (.iaS 7) [t 15, t 16],
 o 18 (.faddr 6) [t 17],
 o 19 (.load 1 false) [t 18],
 o 20 (.bin .gtr) [t 19, i 1125899906842624],
 m 21 20,
 n 22 21 (.faddr 1) [t 1],
 n 23 21 (.load 1 false) [t 22],
 n 24 21 .mv [t 3],
 n 25 21 (.iaS 7) [t 23, t 24],
 n 26 21 (.faddr 6) [t 25],
 n 27 21 (.load 1 false) [t 26],
 n 28 21 (.bin .lss) [t 27, i (-1125899906842624)],
 o 29 .pick [t 21, b true, t 28]]
def c30_5 : EC := .rg c30_5l false
@[simp] theorem c30_5e : Rg c30_5 c30_5l false := rgE _ _
@[simp] def c30_6l : List EO := [o 2 .mv [b false]]
def c30_6 : EC := .rg c30_6l false
@[simp] theorem c30_6e : Rg c30_6 c30_6l false := rgE _ _
def c30_7 : EC := .sq c30_6 .rt
@[simp] theorem c30_7e : Sq c30_7 c30_6 .rt := sqE _ _
def c30_8 : EC := .cd (t 29) c30_7 .skip
@[simp] theorem c30_8e : Cd c30_8 (t 29) c30_7 .skip := cdE _ _ _
def c30_9 : EC := .sq c30_5 c30_8
@[simp] theorem c30_9e : Sq c30_9 c30_5 c30_8 := sqE _ _
def c30_10 : EC := .bk 1 c30_9
@[simp] theorem c30_10e : Bk c30_10 1 c30_9 := bkE _ _
@[simp] def c30_11l : List EO := [m 12 3,
 o 13 (.bin .add) [t 12, i 1],
 m 3 13]
def c30_11 : EC := .rg c30_11l false
@[simp] theorem c30_11e : Rg c30_11 c30_11l false := rgE _ _
def c30_12 : EC := .sq c30_10 c30_11
@[simp] theorem c30_12e : Sq c30_12 c30_10 c30_11 := sqE _ _
def c30_13 : EC := .sq c30_4 c30_12
@[simp] theorem c30_13e : Sq c30_13 c30_4 c30_12 := sqE _ _
def c30_14 : EC := .bk 0 (.lp c30_13)
@[simp] theorem c30_14e : Bk c30_14 0 (.lp c30_13) := bkE _ _
def c30_15 : EC := .sq c30_1 c30_14
@[simp] theorem c30_15e : Sq c30_15 c30_1 c30_14 := sqE _ _
@[simp] def c30_16l : List EO := [o 4 .mv [i 0]]
def c30_16 : EC := .rg c30_16l false
@[simp] theorem c30_16e : Rg c30_16 c30_16l false := rgE _ _
@[simp] def c30_17l : List EO := [m 30 4,
 o 31 (.faddr 2) [t 1],
 o 32 (.load 1 false) [t 31],
 o 33 .lenL [t 32],
 o 34 (.bin .lss) [t 30, t 33]]
def c30_17 : EC := .rg c30_17l false
@[simp] theorem c30_17e : Rg c30_17 c30_17l false := rgE _ _
def c30_18 : EC := .cd (t 34) .skip (.ex 2)
@[simp] theorem c30_18e : Cd c30_18 (t 34) .skip (.ex 2) := cdE _ _ _
def c30_19 : EC := .sq c30_17 c30_18
@[simp] theorem c30_19e : Sq c30_19 c30_17 c30_18 := sqE _ _
@[simp] def c30_20l : List EO := [o 5 .mv [i 0]]
def c30_20 : EC := .rg c30_20l false
@[simp] theorem c30_20e : Rg c30_20 c30_20l false := rgE _ _
@[simp] def c30_21l : List EO := [m 37 5,
 o 38 (.faddr 2) [t 1],
 o 39 (.load 1 false) [t 38],
 m 40 4,
 o 41 (.iaS 5) [t 39, t 40],
 o 42 (.faddr 4) [t 41],
 o 43 (.load 1 false) [t 42],
 o 44 .lenL [t 43],
 o 45 (.bin .lss) [t 37, t 44]]
def c30_21 : EC := .rg c30_21l false
@[simp] theorem c30_21e : Rg c30_21 c30_21l false := rgE _ _
def c30_22 : EC := .cd (t 45) .skip (.ex 4)
@[simp] theorem c30_22e : Cd c30_22 (t 45) .skip (.ex 4) := cdE _ _ _
def c30_23 : EC := .sq c30_21 c30_22
@[simp] theorem c30_23e : Sq c30_23 c30_21 c30_22 := sqE _ _
@[simp] def c30_24l : List EO := [o 48 (.faddr 2) [t 1],
 o 49 (.load 1 false) [t 48],
 m 50 4,
 o 51 (.iaS 5) [t 49, t 50],
 o 52 (.faddr 4) [t 51],
 o 53 (.load 1 false) [t 52],
 m 54 5,
 o 55 (.iaS 2) [t 53, t 54],
 o 56 (.faddr 1) [t 55],
 o 57 (.load 1 false) [t 56],
 m 6 57]
def c30_24 : EC := .rg c30_24l false
@[simp] theorem c30_24e : Rg c30_24 c30_24l false := rgE _ _
@[simp] def c30_25l : List EO := [m 58 5,
 o 59 (.bin .geq) [t 58, i 10],
 m 60 59,
 n 61 60 .mv [t 6],
 n 62 60 (.bin .gtr) [t 61, i 1125899906842624],
 o 63 .pick [t 60, b true, t 62],
 m 64 63,
 n 65 64 .mv [t 6],
 n 66 64 (.bin .lss) [t 65, i (-1125899906842624)],
 o 67 .pick [t 64, b true, t 66]]
def c30_25 : EC := .rg c30_25l false
@[simp] theorem c30_25e : Rg c30_25 c30_25l false := rgE _ _
@[simp] def c30_26l : List EO := [o 2 .mv [b false]]
def c30_26 : EC := .rg c30_26l false
@[simp] theorem c30_26e : Rg c30_26 c30_26l false := rgE _ _
def c30_27 : EC := .sq c30_26 .rt
@[simp] theorem c30_27e : Sq c30_27 c30_26 .rt := sqE _ _
def c30_28 : EC := .cd (t 67) c30_27 .skip
@[simp] theorem c30_28e : Cd c30_28 (t 67) c30_27 .skip := cdE _ _ _
def c30_29 : EC := .sq c30_25 c30_28
@[simp] theorem c30_29e : Sq c30_29 c30_25 c30_28 := sqE _ _
def c30_30 : EC := .sq c30_24 c30_29
@[simp] theorem c30_30e : Sq c30_30 c30_24 c30_29 := sqE _ _
def c30_31 : EC := .bk 5 c30_30
@[simp] theorem c30_31e : Bk c30_31 5 c30_30 := bkE _ _
@[simp] def c30_32l : List EO := [m 46 5,
 o 47 (.bin .add) [t 46, i 1],
 m 5 47]
def c30_32 : EC := .rg c30_32l false
@[simp] theorem c30_32e : Rg c30_32 c30_32l false := rgE _ _
def c30_33 : EC := .sq c30_31 c30_32
@[simp] theorem c30_33e : Sq c30_33 c30_31 c30_32 := sqE _ _
def c30_34 : EC := .sq c30_23 c30_33
@[simp] theorem c30_34e : Sq c30_34 c30_23 c30_33 := sqE _ _
def c30_35 : EC := .bk 4 (.lp c30_34)
@[simp] theorem c30_35e : Bk c30_35 4 (.lp c30_34) := bkE _ _
def c30_36 : EC := .sq c30_20 c30_35
@[simp] theorem c30_36e : Sq c30_36 c30_20 c30_35 := sqE _ _
def c30_37 : EC := .bk 3 c30_36
@[simp] theorem c30_37e : Bk c30_37 3 c30_36 := bkE _ _
@[simp] def c30_38l : List EO := [m 35 4,
 o 36 (.bin .add) [t 35, i 1],
 m 4 36]
def c30_38 : EC := .rg c30_38l false
@[simp] theorem c30_38e : Rg c30_38 c30_38l false := rgE _ _
def c30_39 : EC := .sq c30_37 c30_38
@[simp] theorem c30_39e : Sq c30_39 c30_37 c30_38 := sqE _ _
def c30_40 : EC := .sq c30_19 c30_39
@[simp] theorem c30_40e : Sq c30_40 c30_19 c30_39 := sqE _ _
def c30_41 : EC := .bk 2 (.lp c30_40)
@[simp] theorem c30_41e : Bk c30_41 2 (.lp c30_40) := bkE _ _
def c30_42 : EC := .sq c30_16 c30_41
@[simp] theorem c30_42e : Sq c30_42 c30_16 c30_41 := sqE _ _
@[simp] def c30_43l : List EO := [o 68 (.faddr 1) [t 1],
 o 69 (.load 1 false) [t 68],
 o 70 .lenL [t 69],
 o 71 (.bin .leq) [t 70, i 150],
 m 72 71,
 y 73 72 (.faddr 2) [t 1],
 y 74 72 (.load 1 false) [t 73],
 y 75 72 .lenL [t 74],
 y 76 72 (.bin .leq) [t 75, i 60],
 o 77 .pick [t 72, t 76, b false],
 m 2 77]
def c30_43 : EC := .rg c30_43l false
@[simp] theorem c30_43e : Rg c30_43 c30_43l false := rgE _ _
def c30_44 : EC := .sq c30_43 .rt
@[simp] theorem c30_44e : Sq c30_44 c30_43 .rt := sqE _ _
def c30_45 : EC := .sq c30_42 c30_44
@[simp] theorem c30_45e : Sq c30_45 c30_42 c30_44 := sqE _ _
def c30_46 : EC := .sq c30_15 c30_45
@[simp] theorem c30_46e : Sq c30_46 c30_15 c30_45 := sqE _ _
def c30_47 : EC := .sq c30_0 c30_46
@[simp] theorem c30_47e : Sq c30_47 c30_0 c30_46 := sqE _ _
def c_tallystoneref52_Few_30 : EC := c30_47
theorem k_30 : ecF Try.prog 30 = some (78, c_tallystoneref52_Few_30, [.tm 2]) := by kernel_rfl

/-- tallystone/note.days -/
@[simp] def c31_0l : List EO := [o 2 .box [t 0],
 o 4 .mv [i 0],
 o 5 .mv [i 0],
 o 6 .mv [i 0]]
def c31_0 : EC := .rg c31_0l false
@[simp] theorem c31_0e : Rg c31_0 c31_0l false := rgE _ _
@[simp] def c31_1l : List EO := [o 7 (.load 21 true) [t 2],
 o 8 (.call 53) [t 7],
 o 9 (.un .not) [t 8]]
def c31_1 : EC := .rg c31_1l false
@[simp] theorem c31_1e : Rg c31_1 c31_1l false := rgE _ _
@[simp] def c31_2l : List EO := [o 4 .mv [i 0],
 o 5 .mv [i 0],
 o 6 .mv [i 1]]
def c31_2 : EC := .rg c31_2l false
@[simp] theorem c31_2e : Rg c31_2 c31_2l false := rgE _ _
def c31_3 : EC := .sq c31_2 .rt
@[simp] theorem c31_3e : Sq c31_3 c31_2 .rt := sqE _ _
def c31_4 : EC := .cd (t 9) c31_3 .skip
@[simp] theorem c31_4e : Cd c31_4 (t 9) c31_3 .skip := cdE _ _ _
def c31_5 : EC := .sq c31_1 c31_4
@[simp] theorem c31_5e : Sq c31_5 c31_1 c31_4 := sqE _ _
@[simp] def c31_6l : List EO := [o 11 (.faddr 1) [t 2],
 o 12 (.load 3 true) [t 11],
 m 13 1,
 o 14 (.call 54) [t 12, t 13],
 m 10 14,
 o 15 (.ext 0) [t 10],
 o 16 (.ext 1) [t 10],
 m 4 15,
 m 6 16]
def c31_6 : EC := .rg c31_6l false
@[simp] theorem c31_6e : Rg c31_6 c31_6l false := rgE _ _
@[simp] def c31_7l : List EO := [m 17 6,
 o 18 (.bin .neq) [t 17, i 0]]
def c31_7 : EC := .rg c31_7l false
@[simp] theorem c31_7e : Rg c31_7 c31_7l false := rgE _ _
@[simp] def c31_8l : List EO := [o 4 .mv [i 0],
 o 5 .mv [i 0],
 o 6 .mv [i 2]]
def c31_8 : EC := .rg c31_8l false
@[simp] theorem c31_8e : Rg c31_8 c31_8l false := rgE _ _
def c31_9 : EC := .sq c31_8 .rt
@[simp] theorem c31_9e : Sq c31_9 c31_8 .rt := sqE _ _
def c31_10 : EC := .cd (t 18) c31_9 .skip
@[simp] theorem c31_10e : Cd c31_10 (t 18) c31_9 .skip := cdE _ _ _
def c31_11 : EC := .sq c31_7 c31_10
@[simp] theorem c31_11e : Sq c31_11 c31_7 c31_10 := sqE _ _
def c31_12 : EC := .sq c31_6 c31_11
@[simp] theorem c31_12e : Sq c31_12 c31_6 c31_11 := sqE _ _
@[simp] def c31_13l : List EO := [o 20 (.faddr 1) [t 2],
 o 21 (.load 3 true) [t 20],
 m 22 1,
 o 23 (.call 55) [t 21, t 22],
 m 19 23,
 o 24 (.ext 0) [t 19],
 o 25 (.ext 1) [t 19],
 m 5 24]
def c31_13 : EC := .rg c31_13l false
@[simp] theorem c31_13e : Rg c31_13 c31_13l false := rgE _ _
@[simp] def c31_14l : List EO := [m 26 4,
 m 27 5,
 m 4 26,
 m 5 27,
 o 6 .mv [i 0]]
def c31_14 : EC := .rg c31_14l false
@[simp] theorem c31_14e : Rg c31_14 c31_14l false := rgE _ _
def c31_15 : EC := .sq c31_14 .rt
@[simp] theorem c31_15e : Sq c31_15 c31_14 .rt := sqE _ _
def c31_16 : EC := .sq c31_13 c31_15
@[simp] theorem c31_16e : Sq c31_16 c31_13 c31_15 := sqE _ _
def c31_17 : EC := .sq c31_12 c31_16
@[simp] theorem c31_17e : Sq c31_17 c31_12 c31_16 := sqE _ _
def c31_18 : EC := .sq c31_5 c31_17
@[simp] theorem c31_18e : Sq c31_18 c31_5 c31_17 := sqE _ _
def c31_19 : EC := .sq c31_0 c31_18
@[simp] theorem c31_19e : Sq c31_19 c31_0 c31_18 := sqE _ _
def c_note_days_31 : EC := c31_19
theorem k_31 : ecF Try.prog 31 = some (28, c_note_days_31, [.tm 4, .tm 5, .tm 6]) := by kernel_rfl

/-- tallystone/group.Account -/
@[simp] def c32_0l : List EO := [o 2 .box [t 0],
 o 3 .box [t 1],
 o 4 (.alloc [.t (.int .i64 0), .t (.int .i64 0), .t (.int .i64 0), .t (.int .i64 0)]) [],
 o 5 .mv [b false]]
def c32_0 : EC := .rg c32_0l false
@[simp] theorem c32_0e : Rg c32_0 c32_0l false := rgE _ _
@[simp] def c32_1l : List EO := [o 7 (.faddr 4) [t 2],
 o 8 (.load 1 false) [t 7],
 o 9 (.mkfn (.func 57)) [t 3],
 o 10 (.call 56) [t 8, t 9],
 m 6 10]
def c32_1 : EC := .rg c32_1l false
@[simp] theorem c32_1e : Rg c32_1 c32_1l false := rgE _ _
@[simp] def c32_2l : List EO := [m 11 6,
 o 12 (.bin .lss) [t 11, i 0]]
def c32_2 : EC := .rg c32_2l false
@[simp] theorem c32_2e : Rg c32_2 c32_2l false := rgE _ _
@[simp] def c32_3l : List EO := [o 13 (.build [.t (.int .i64 0), .t (.int .i64 0), .t (.int .i64 0), .t (.int .i64 0)] []) [],
 u (.store 4) [t 4, t 13],
 o 5 .mv [b false]]
def c32_3 : EC := .rg c32_3l false
@[simp] theorem c32_3e : Rg c32_3 c32_3l false := rgE _ _
def c32_4 : EC := .sq c32_3 .rt
@[simp] theorem c32_4e : Sq c32_4 c32_3 .rt := sqE _ _
def c32_5 : EC := .cd (t 12) c32_4 .skip
@[simp] theorem c32_5e : Cd c32_5 (t 12) c32_4 .skip := cdE _ _ _
def c32_6 : EC := .sq c32_2 c32_5
@[simp] theorem c32_6e : Sq c32_6 c32_2 c32_5 := sqE _ _
@[simp] def c32_7l : List EO := [o 14 (.faddr 4) [t 2],
 o 15 (.load 1 false) [t 14],
 m 16 6,
 o 17 (.iaS 4) [t 15, t 16],
 o 18 (.load 4 true) [t 17],
 u (.store 4) [t 4, t 18],
 o 5 .mv [b true]]
def c32_7 : EC := .rg c32_7l false
@[simp] theorem c32_7e : Rg c32_7 c32_7l false := rgE _ _
def c32_8 : EC := .sq c32_7 .rt
@[simp] theorem c32_8e : Sq c32_8 c32_7 .rt := sqE _ _
def c32_9 : EC := .sq c32_6 c32_8
@[simp] theorem c32_9e : Sq c32_9 c32_6 c32_8 := sqE _ _
def c32_10 : EC := .sq c32_1 c32_9
@[simp] theorem c32_10e : Sq c32_10 c32_1 c32_9 := sqE _ _
def c32_11 : EC := .sq c32_0 c32_10
@[simp] theorem c32_11e : Sq c32_11 c32_0 c32_10 := sqE _ _
def c_group_Account_32 : EC := c32_11
theorem k_32 : ecF Try.prog 32 = some (19, c_group_Account_32, [.ce 4 4 true, .tm 5]) := by kernel_rfl

/-- (tallystone/note.collector).before -/
@[simp] def c33_0l : List EO := [o 2 .box [t 0],
 o 3 .box [t 1]]
def c33_0 : EC := .rg c33_0l false
@[simp] theorem c33_0e : Rg c33_0 c33_0l false := rgE _ _
@[simp] def c33_1l : List EO := [o 6 (.faddr 1) [t 3],
 o 7 (.load 1 false) [t 6],
 o 8 .lenL [t 7],
 o 9 .mv [i 0]]
def c33_1 : EC := .rg c33_1l false
@[simp] theorem c33_1e : Rg c33_1 c33_1l false := rgE _ _
@[simp] def c33_2l : List EO := [o 10 (.bin .lss) [t 9, t 8]]
def c33_2 : EC := .rg c33_2l false
@[simp] theorem c33_2e : Rg c33_2 c33_2l false := rgE _ _
def c33_3 : EC := .cd (t 10) .skip (.ex 0)
@[simp] theorem c33_3e : Cd c33_3 (t 10) .skip (.ex 0) := cdE _ _ _
@[simp] def c33_4l : List EO := [o 11 (.iaS 7) [t 7, t 9],
 o 12 (.load 7 true) [t 11],
 o 5 (.alloc [.t (.int .i64 0), .t (.int .i64 0), .t (.int .i64 0), .t (.int .i64 0), .t (.int .i64 0), .t (.int .i64 0), .t (.int .i64 0)]) [],
 u (.store 7) [t 5, t 12]]
def c33_4 : EC := .rg c33_4l false
@[simp] theorem c33_4e : Rg c33_4 c33_4l false := rgE _ _
@[simp] def c33_5l : List EO := [o 13 (.faddr 3) [t 5],
 o 14 (.load 1 false) [t 13],
 o 15 (.faddr 0) [t 2],
 o 16 (.load 1 false) [t 15],
 o 17 .nilc [t 16],
 o 18 (.faddr 0) [t 17],
 o 19 (.load 1 false) [t 18],
 o 20 (.bin .eql) [t 14, t 19]]
def c33_5 : EC := .rg c33_5l true
@[simp] theorem c33_5e : Rg c33_5 c33_5l true := rgE _ _
@[simp] def c33_6l : List EO := [o 21 (.faddr 0) [t 2],
 o 22 (.load 1 false) [t 21],
 o 23 .nilc [t 22],
 o 24 (.faddr 1) [t 23],
 o 25 (.load 1 false) [t 24],
 o 26 (.faddr 6) [t 5],
 o 27 (.load 1 false) [t 26],
 o 28 (.bin .add) [t 25, t 27],
 o 29 .nilc [t 22],
 o 30 (.faddr 1) [t 29],
 u (.store 1) [t 30, t 28]]
def c33_6 : EC := .rg c33_6l true
@[simp] theorem c33_6e : Rg c33_6 c33_6l true := rgE _ _
@[simp] def c33_7l : List EO := [o 31 (.faddr 0) [t 2],
 o 32 (.load 1 false) [t 31],
 o 33 .nilc [t 32],
 o 34 (.faddr 3) [t 33],
 o 35 (.load 1 false) [t 34],
 o 36 (.faddr 6) [t 5],
 o 37 (.load 1 false) [t 36],
 o 38 (.bin .sub) [t 35, t 37],
 o 39 .nilc [t 32],
 o 40 (.faddr 3) [t 39],
 u (.store 1) [t 40, t 38]]
def c33_7 : EC := .rg c33_7l true
@[simp] theorem c33_7e : Rg c33_7 c33_7l true := rgE _ _
def c33_8 : EC := .sq c33_6 c33_7
@[simp] theorem c33_8e : Sq c33_8 c33_6 c33_7 := sqE _ _
def c33_9 : EC := .cd (t 20) c33_8 .skip
@[simp] theorem c33_9e : Cd c33_9 (t 20) c33_8 .skip := cdE _ _ _
def c33_10 : EC := .sq c33_5 c33_9
@[simp] theorem c33_10e : Sq c33_10 c33_5 c33_9 := sqE _ _
def c33_11 : EC := .sq c33_4 c33_10
@[simp] theorem c33_11e : Sq c33_11 c33_4 c33_10 := sqE _ _
def c33_12 : EC := .bk 1 c33_11
@[simp] theorem c33_12e : Bk c33_12 1 c33_11 := bkE _ _
@[simp] def c33_13l : List EO := [o 41 (.bin .add) [t 9, i 1],
 m 9 41]
def c33_13 : EC := .rg c33_13l false
@[simp] theorem c33_13e : Rg c33_13 c33_13l false := rgE _ _
def c33_14 : EC := .sq c33_12 c33_13
@[simp] theorem c33_14e : Sq c33_14 c33_12 c33_13 := sqE _ _
def c33_15 : EC := .sq c33_3 c33_14
@[simp] theorem c33_15e : Sq c33_15 c33_3 c33_14 := sqE _ _
def c33_16 : EC := .sq c33_2 c33_15
@[simp] theorem c33_16e : Sq c33_16 c33_2 c33_15 := sqE _ _
def c33_17 : EC := .bk 0 (.lp c33_16)
@[simp] theorem c33_17e : Bk c33_17 0 (.lp c33_16) := bkE _ _
def c33_18 : EC := .sq c33_1 c33_17
@[simp] theorem c33_18e : Sq c33_18 c33_1 c33_17 := sqE _ _
@[simp] def c33_19l : List EO := [o 42 (.load 3 true) [t 2],
 o 43 (.load 4 true) [t 3],
 o 44 (.faddr 0) [t 2],
 o 45 (.load 1 false) [t 44],
 o 46 .nilc [t 45],
 o 47 (.faddr 1) [t 46]]
def c33_19 : EC := .rg c33_19l true
@[simp] theorem c33_19e : Rg c33_19 c33_19l true := rgE _ _
@[simp] def c33_20l : List EO := [o 48 (.call 58) [t 42, t 43, t 47, i (-1)]]
def c33_20 : EC := .rg c33_20l false
@[simp] theorem c33_20e : Rg c33_20 c33_20l false := rgE _ _
def c33_21 : EC := .sq c33_19 c33_20
@[simp] theorem c33_21e : Sq c33_21 c33_19 c33_20 := sqE _ _
def c33_22 : EC := .sq c33_18 c33_21
@[simp] theorem c33_22e : Sq c33_22 c33_18 c33_21 := sqE _ _
def c33_23 : EC := .sq c33_0 c33_22
@[simp] theorem c33_23e : Sq c33_23 c33_0 c33_22 := sqE _ _
def c_note_collector__before_33 : EC := c33_23
theorem k_33 : ecF Try.prog 33 = some (49, c_note_collector__before_33, []) := by kernel_rfl

/-- (tallystone/note.collector).after -/
@[simp] def c34_0l : List EO := [o 2 .box [t 0],
 o 3 .box [t 1]]
def c34_0 : EC := .rg c34_0l false
@[simp] theorem c34_0e : Rg c34_0 c34_0l false := rgE _ _
@[simp] def c34_1l : List EO := [o 6 (.faddr 1) [t 3],
 o 7 (.load 1 false) [t 6],
 o 8 .lenL [t 7],
 o 9 .mv [i 0]]
def c34_1 : EC := .rg c34_1l false
@[simp] theorem c34_1e : Rg c34_1 c34_1l false := rgE _ _
@[simp] def c34_2l : List EO := [o 10 (.bin .lss) [t 9, t 8]]
def c34_2 : EC := .rg c34_2l false
@[simp] theorem c34_2e : Rg c34_2 c34_2l false := rgE _ _
def c34_3 : EC := .cd (t 10) .skip (.ex 0)
@[simp] theorem c34_3e : Cd c34_3 (t 10) .skip (.ex 0) := cdE _ _ _
@[simp] def c34_4l : List EO := [o 11 (.iaS 7) [t 7, t 9],
 o 12 (.load 7 true) [t 11],
 o 5 (.alloc [.t (.int .i64 0), .t (.int .i64 0), .t (.int .i64 0), .t (.int .i64 0), .t (.int .i64 0), .t (.int .i64 0), .t (.int .i64 0)]) [],
 u (.store 7) [t 5, t 12]]
def c34_4 : EC := .rg c34_4l false
@[simp] theorem c34_4e : Rg c34_4 c34_4l false := rgE _ _
@[simp] def c34_5l : List EO := [o 13 (.faddr 3) [t 5],
 o 14 (.load 1 false) [t 13],
 o 15 (.faddr 0) [t 2],
 o 16 (.load 1 false) [t 15],
 o 17 .nilc [t 16],
 o 18 (.faddr 0) [t 17],
 o 19 (.load 1 false) [t 18],
 o 20 (.bin .neq) [t 14, t 19]]
def c34_5 : EC := .rg c34_5l true
@[simp] theorem c34_5e : Rg c34_5 c34_5l true := rgE _ _
def c34_6 : EC := .cd (t 20) (.ex 1) .skip
@[simp] theorem c34_6e : Cd c34_6 (t 20) (.ex 1) .skip := cdE _ _ _
def c34_7 : EC := .sq c34_5 c34_6
@[simp] theorem c34_7e : Sq c34_7 c34_5 c34_6 := sqE _ _
@[simp] def c34_8l : List EO := [o 21 (.faddr 0) [t 2],
 o 22 (.load 1 false) [t 21],
 o 23 .nilc [t 22],
 o 24 (.faddr 4) [t 23],
 o 25 (.load 1 false) [t 24],
 o 26 (.faddr 6) [t 5],
 o 27 (.load 1 false) [t 26],
 o 28 (.bin .add) [t 25, t 27],
 o 29 .nilc [t 22],
 o 30 (.faddr 4) [t 29],
 u (.store 1) [t 30, t 28]]
def c34_8 : EC := .rg c34_8l true
@[simp] theorem c34_8e : Rg c34_8 c34_8l true := rgE _ _
@[simp] def c34_9l : List EO := [o 31 (.faddr 5) [t 5],
 o 32 (.load 1 false) [t 31],
 o 33 (.faddr 1) [t 2],
 o 34 (.load 1 false) [t 33],
 o 35 (.bin .geq) [t 32, t 34],
 m 36 35,
 y 37 36 (.faddr 5) [t 5],
 y 38 36 (.load 1 false) [t 37],
 y 39 36 (.faddr 2) [t 2],
 y 40 36 (.load 1 false) [t 39],
 y 41 36 (.bin .leq) [t 38, t 40],
 o 42 .pick [t 36, t 41, b false]]
def c34_9 : EC := .rg c34_9l false
@[simp] theorem c34_9e : Rg c34_9 c34_9l false := rgE _ _
@[simp] def c34_10l : List EO := [o 43 (.faddr 0) [t 2],
 o 44 (.load 1 false) [t 43],
 o 45 .nilc [t 44],
 o 46 (.faddr 2) [t 45],
 o 47 (.load 1 false) [t 46],
 o 48 (.faddr 6) [t 5],
 o 49 (.load 1 false) [t 48],
 o 50 (.bin .add) [t 47, t 49],
 o 51 .nilc [t 44],
 o 52 (.faddr 2) [t 51],
 u (.store 1) [t 52, t 50]]
def c34_10 : EC := .rg c34_10l true
@[simp] theorem c34_10e : Rg c34_10 c34_10l true := rgE _ _
@[simp] def c34_11l : List EO := [o 53 (.faddr 0) [t 2],
 o 54 (.load 1 false) [t 53],
 o 55 .nilc [t 54],
 o 56 (.faddr 3) [t 55],
 o 57 (.load 1 false) [t 56],
 o 58 (.faddr 6) [t 5],
 o 59 (.load 1 false) [t 58],
 o 60 (.bin .add) [t 57, t 59],
 o 61 .nilc [t 54],
 o 62 (.faddr 3) [t 61],
 u (.store 1) [t 62, t 60]]
def c34_11 : EC := .rg c34_11l true
@[simp] theorem c34_11e : Rg c34_11 c34_11l true := rgE _ _
def c34_12 : EC := .cd (t 42) c34_10 c34_11
@[simp] theorem c34_12e : Cd c34_12 (t 42) c34_10 c34_11 := cdE _ _ _
def c34_13 : EC := .sq c34_9 c34_12
@[simp] theorem c34_13e : Sq c34_13 c34_9 c34_12 := sqE _ _
def c34_14 : EC := .sq c34_8 c34_13
@[simp] theorem c34_14e : Sq c34_14 c34_8 c34_13 := sqE _ _
def c34_15 : EC := .sq c34_7 c34_14
@[simp] theorem c34_15e : Sq c34_15 c34_7 c34_14 := sqE _ _
def c34_16 : EC := .sq c34_4 c34_15
@[simp] theorem c34_16e : Sq c34_16 c34_4 c34_15 := sqE _ _
def c34_17 : EC := .bk 1 c34_16
@[simp] theorem c34_17e : Bk c34_17 1 c34_16 := bkE _ _
@[simp] def c34_18l : List EO := [o 63 (.bin .add) [t 9, i 1],
 m 9 63]
def c34_18 : EC := .rg c34_18l false
@[simp] theorem c34_18e : Rg c34_18 c34_18l false := rgE _ _
def c34_19 : EC := .sq c34_17 c34_18
@[simp] theorem c34_19e : Sq c34_19 c34_17 c34_18 := sqE _ _
def c34_20 : EC := .sq c34_3 c34_19
@[simp] theorem c34_20e : Sq c34_20 c34_3 c34_19 := sqE _ _
def c34_21 : EC := .sq c34_2 c34_20
@[simp] theorem c34_21e : Sq c34_21 c34_2 c34_20 := sqE _ _
def c34_22 : EC := .bk 0 (.lp c34_21)
@[simp] theorem c34_22e : Bk c34_22 0 (.lp c34_21) := bkE _ _
def c34_23 : EC := .sq c34_1 c34_22
@[simp] theorem c34_23e : Sq c34_23 c34_1 c34_22 := sqE _ _
@[simp] def c34_24l : List EO := [o 64 (.load 3 true) [t 2],
 o 65 (.load 4 true) [t 3],
 o 66 (.faddr 0) [t 2],
 o 67 (.load 1 false) [t 66],
 o 68 .nilc [t 67],
 o 69 (.faddr 4) [t 68]]
def c34_24 : EC := .rg c34_24l true
@[simp] theorem c34_24e : Rg c34_24 c34_24l true := rgE _ _
@[simp] def c34_25l : List EO := [o 70 (.call 58) [t 64, t 65, t 69, i 1]]
def c34_25 : EC := .rg c34_25l false
@[simp] theorem c34_25e : Rg c34_25 c34_25l false := rgE _ _
def c34_26 : EC := .sq c34_24 c34_25
@[simp] theorem c34_26e : Sq c34_26 c34_24 c34_25 := sqE _ _
def c34_27 : EC := .sq c34_23 c34_26
@[simp] theorem c34_27e : Sq c34_27 c34_23 c34_26 := sqE _ _
def c34_28 : EC := .sq c34_0 c34_27
@[simp] theorem c34_28e : Sq c34_28 c34_0 c34_27 := sqE _ _
def c_note_collector__after_34 : EC := c34_28
theorem k_34 : ecF Try.prog 34 = some (71, c_note_collector__after_34, []) := by kernel_rfl

/-- slices.ContainsFunc[[]int,int] -/
@[simp] def c35_0l : List EO := [o 4 .mv [b false]]
def c35_0 : EC := .rg c35_0l false
@[simp] theorem c35_0e : Rg c35_0 c35_0l false := rgE _ _
@[simp] def c35_1l : List EO := [m 5 0,
 m 6 1,
 o 7 (.call 59) [t 5, t 6],
 o 8 (.bin .geq) [t 7, i 0],
 m 4 8]
def c35_1 : EC := .rg c35_1l false
@[simp] theorem c35_1e : Rg c35_1 c35_1l false := rgE _ _
def c35_2 : EC := .sq c35_1 .rt
@[simp] theorem c35_2e : Sq c35_2 c35_1 .rt := sqE _ _
def c35_3 : EC := .sq c35_0 c35_2
@[simp] theorem c35_3e : Sq c35_3 c35_0 c35_2 := sqE _ _
def c_slices_ContainsFunc___int_int__35 : EC := c35_3
theorem k_35 : ecF Try.prog 35 = some (9, c_slices_ContainsFunc___int_int__35, [.tm 4]) := by kernel_rfl

/-- (tallystone/note.Note).figures -/
@[simp] def c36_0l : List EO := [o 1 .box [t 0],
 o 2 .mv [c (.snil)]]
def c36_0 : EC := .rg c36_0l false
@[simp] theorem c36_0e : Rg c36_0 c36_0l false := rgE _ _
@[simp] def c36_1l : List EO := [o 3 (.faddr 1) [t 1],
 o 4 (.load 1 false) [t 3],
 o 5 (.faddr 2) [t 1],
 o 6 (.load 1 false) [t 5],
 o 7 (.faddr 3) [t 1],
 o 8 (.load 1 false) [t 7],
 o 9 (.faddr 4) [t 1],
 o 10 (.load 1 false) [t 9],
 o 11 (.bsl 1) [t 4, t 6, t 8, t 10],
 o 12 (.faddr 5) [t 1],
 o 13 (.slA 11 1 false false) [t 12],
 o 14 (.app 3 1 8) [t 11, t 13],
 m 2 14]
def c36_1 : EC := .rg c36_1l true
@[simp] theorem c36_1e : Rg c36_1 c36_1l true := rgE _ _
def c36_2 : EC := .sq c36_1 .rt
@[simp] theorem c36_2e : Sq c36_2 c36_1 .rt := sqE _ _
def c36_3 : EC := .sq c36_0 c36_2
@[simp] theorem c36_3e : Sq c36_3 c36_0 c36_2 := sqE _ _
def c_note_Note__figures_36 : EC := c36_3
theorem k_36 : ecF Try.prog 36 = some (15, c_note_Note__figures_36, [.tm 2]) := by kernel_rfl

/-- (tallystone/note.Note).figures, with slices that grow in boxes -/
@[simp] def b36_0l : List EO := [o 1 .box [t 0],
 o 2 .mv [c (.snil)]]
def b36_0 : EC := .rg b36_0l false
@[simp] theorem b36_0e : Rg b36_0 b36_0l false := rgE _ _
@[simp] def b36_1l : List EO := [o 3 (.faddr 1) [t 1],
 o 4 (.load 1 false) [t 3],
 o 5 (.faddr 2) [t 1],
 o 6 (.load 1 false) [t 5],
 o 7 (.faddr 3) [t 1],
 o 8 (.load 1 false) [t 7],
 o 9 (.faddr 4) [t 1],
 o 10 (.load 1 false) [t 9],
 o 11 (.bsl 1) [t 4, t 6, t 8, t 10],
 o 12 (.faddr 5) [t 1],
 o 13 (.slA 11 1 false false) [t 12],
 o 14 (.appB 3 1 8) [t 11, t 13],
 m 2 14]
def b36_1 : EC := .rg b36_1l true
@[simp] theorem b36_1e : Rg b36_1 b36_1l true := rgE _ _
def b36_2 : EC := .sq b36_1 .rt
@[simp] theorem b36_2e : Sq b36_2 b36_1 .rt := sqE _ _
def b36_3 : EC := .sq b36_0 b36_2
@[simp] theorem b36_3e : Sq b36_3 b36_0 b36_2 := sqE _ _
def b_note_Note__figures_36 : EC := b36_3
theorem kb_36 : ecB Try.prog 36 = some (15, b_note_Note__figures_36, [.tm 2]) := by kernel_rfl

/-- tallystone/note.Make$1 -/
@[simp] def c37_0l : List EO := [o 2 .mv [b false]]
def c37_0 : EC := .rg c37_0l false
@[simp] theorem c37_0e : Rg c37_0 c37_0l false := rgE _ _
@[simp] def c37_1l : List EO := [m 3 0,
 o 4 (.call 38) [t 3],
 o 5 (.un .not) [t 4],
 m 2 5]
def c37_1 : EC := .rg c37_1l false
@[simp] theorem c37_1e : Rg c37_1 c37_1l false := rgE _ _
def c37_2 : EC := .sq c37_1 .rt
@[simp] theorem c37_2e : Sq c37_2 c37_1 .rt := sqE _ _
def c37_3 : EC := .sq c37_0 c37_2
@[simp] theorem c37_3e : Sq c37_3 c37_0 c37_2 := sqE _ _
def c_note_MakeS1_37 : EC := c37_3
theorem k_37 : ecF Try.prog 37 = some (6, c_note_MakeS1_37, [.tm 2]) := by kernel_rfl

/-- tallystone/money.Valid -/
@[simp] def c38_0l : List EO := [o 2 .mv [b false]]
def c38_0 : EC := .rg c38_0l false
@[simp] theorem c38_0e : Rg c38_0 c38_0l false := rgE _ _
@[simp] def c38_1l : List EO := [m 3 0,
 o 4 (.bin .geq) [t 3, i (-1000000000000)],
 m 5 4,
 y 6 5 .mv [t 0],
 y 7 5 (.bin .leq) [t 6, i 1000000000000],
 o 8 .pick [t 5, t 7, b false],
 m 2 8]
def c38_1 : EC := .rg c38_1l false
@[simp] theorem c38_1e : Rg c38_1 c38_1l false := rgE _ _
def c38_2 : EC := .sq c38_1 .rt
@[simp] theorem c38_2e : Sq c38_2 c38_1 .rt := sqE _ _
def c38_3 : EC := .sq c38_0 c38_2
@[simp] theorem c38_3e : Sq c38_3 c38_0 c38_2 := sqE _ _
def c_money_Valid_38 : EC := c38_3
theorem k_38 : ecF Try.prog 38 = some (9, c_money_Valid_38, [.tm 2]) := by kernel_rfl

/-- tallystone/tallystoneref52.items -/
@[simp] def c39_0l : List EO := [o 4 .box [t 0],
 o 8 .mv [i 0]]
def c39_0 : EC := .rg c39_0l false
@[simp] theorem c39_0e : Rg c39_0 c39_0l false := rgE _ _
@[simp] def c39_1l : List EO := [o 9 .mv [i 0]]
def c39_1 : EC := .rg c39_1l false
@[simp] theorem c39_1e : Rg c39_1 c39_1l false := rgE _ _
@[simp] def c39_2l : List EO := [o 10 .mv [i 0]]
def c39_2 : EC := .rg c39_2l false
@[simp] theorem c39_2e : Rg c39_2 c39_2l false := rgE _ _
@[simp] def c39_3l : List EO := [m 12 10,
 o 13 (.faddr 1) [t 4],
 o 14 (.load 1 false) [t 13],
 o 15 .lenL [t 14],
 o 16 (.bin .lss) [t 12, t 15]]
def c39_3 : EC := .rg c39_3l false
@[simp] theorem c39_3e : Rg c39_3 c39_3l false := rgE _ _
def c39_4 : EC := .cd (t 16) .skip (.ex 0)
@[simp] theorem c39_4e : Cd c39_4 (t 16) .skip (.ex 0) := cdE _ _ _
def c39_5 : EC := .sq c39_3 c39_4
@[simp] theorem c39_5e : Sq c39_5 c39_3 c39_4 := sqE _ _
@[simp] def c39_6l : List EO := [o 19 (.faddr 1) [t 4],
 o 20 (.load 1 false) [t 19],
 m 21 10,
 o 22 (.iaS 7) [t 20, t 21],
 o 23 (.load 7 true) [t 22],
 o 11 (.alloc [.t (.int .i64 0), .t (.int .i64 0), .t (.int .i64 0), .t (.int .i64 0), .t (.int .i64 0), .t (.int .i64 0), .t (.int .i64 0)]) [],
 u (.store 7) [t 11, t 23]]
def c39_6 : EC := .rg c39_6l false
@[simp] theorem c39_6e : Rg c39_6 c39_6l false := rgE _ _
@[simp] def c39_7l : List EO := [o 24 (.faddr 3) [t 11],
 o 25 (.load 1 false) [t 24],
 m 26 1,
 o 27 (.bin .eql) [t 25, t 26],
 m 28 27,
 y 29 28 (.faddr 5) [t 11],
 y 30 28 (.load 1 false) [t 29],
 y 31 28 .mv [t 2],
 y 32 28 (.bin .geq) [t 30, t 31],
 o 33 .pick [t 28, t 32, b false],
 m 34 33,
 y 35 34 (.faddr 5) [t 11],
 y 36 34 (.load 1 false) [t 35],
 y 37 34 .mv [t 3],
 y 38 34 (.bin .leq) [t 36, t 37],
 o 39 .pick [t 34, t 38, b false]]
def c39_7 : EC := .rg c39_7l false
@[simp] theorem c39_7e : Rg c39_7 c39_7l false := rgE _ _
@[simp] def c39_8l : List EO := [m 40 9,
 o 41 (.faddr 6) [t 11],
 o 42 (.load 1 false) [t 41],
 o 43 (.bin .add) [t 40, t 42],
 m 9 43]
def c39_8 : EC := .rg c39_8l false
@[simp] theorem c39_8e : Rg c39_8 c39_8l false := rgE _ _
def c39_9 : EC := .cd (t 39) c39_8 .skip
@[simp] theorem c39_9e : Cd c39_9 (t 39) c39_8 .skip := cdE _ _ _
def c39_10 : EC := .sq c39_7 c39_9
@[simp] theorem c39_10e : Sq c39_10 c39_7 c39_9 := sqE _ _
def c39_11 : EC := .sq c39_6 c39_10
@[simp] theorem c39_11e : Sq c39_11 c39_6 c39_10 := sqE _ _
def c39_12 : EC := .bk 1 c39_11
@[simp] theorem c39_12e : Bk c39_12 1 c39_11 := bkE _ _
@[simp] def c39_13l : List EO := [m 17 10,
 o 18 (.bin .add) [t 17, i 1],
 m 10 18]
def c39_13 : EC := .rg c39_13l false
@[simp] theorem c39_13e : Rg c39_13 c39_13l false := rgE _ _
def c39_14 : EC := .sq c39_12 c39_13
@[simp] theorem c39_14e : Sq c39_14 c39_12 c39_13 := sqE _ _
def c39_15 : EC := .sq c39_5 c39_14
@[simp] theorem c39_15e : Sq c39_15 c39_5 c39_14 := sqE _ _
def c39_16 : EC := .bk 0 (.lp c39_15)
@[simp] theorem c39_16e : Bk c39_16 0 (.lp c39_15) := bkE _ _
def c39_17 : EC := .sq c39_2 c39_16
@[simp] theorem c39_17e : Sq c39_17 c39_2 c39_16 := sqE _ _
@[simp] def c39_18l : List EO := [m 44 9,
 m 8 44]
def c39_18 : EC := .rg c39_18l false
@[simp] theorem c39_18e : Rg c39_18 c39_18l false := rgE _ _
def c39_19 : EC := .sq c39_18 .rt
@[simp] theorem c39_19e : Sq c39_19 c39_18 .rt := sqE _ _
def c39_20 : EC := .sq c39_17 c39_19
@[simp] theorem c39_20e : Sq c39_20 c39_17 c39_19 := sqE _ _
def c39_21 : EC := .sq c39_1 c39_20
@[simp] theorem c39_21e : Sq c39_21 c39_1 c39_20 := sqE _ _
def c39_22 : EC := .sq c39_0 c39_21
@[simp] theorem c39_22e : Sq c39_22 c39_0 c39_21 := sqE _ _
def c_tallystoneref52_items_39 : EC := c39_22
theorem k_39 : ecF Try.prog 39 = some (45, c_tallystoneref52_items_39, [.tm 8]) := by kernel_rfl

/-- tallystone/tallystoneref52.parts -/
@[simp] def c40_0l : List EO := [o 3 .box [t 0],
 o 6 .mv [i 0]]
def c40_0 : EC := .rg c40_0l false
@[simp] theorem c40_0e : Rg c40_0 c40_0l false := rgE _ _
@[simp] def c40_1l : List EO := [o 7 .mv [i 0]]
def c40_1 : EC := .rg c40_1l false
@[simp] theorem c40_1e : Rg c40_1 c40_1l false := rgE _ _
@[simp] def c40_2l : List EO := [o 8 .mv [i 0]]
def c40_2 : EC := .rg c40_2l false
@[simp] theorem c40_2e : Rg c40_2 c40_2l false := rgE _ _
@[simp] def c40_3l : List EO := [m 11 8,
 o 12 (.faddr 2) [t 3],
 o 13 (.load 1 false) [t 12],
 o 14 .lenL [t 13],
 o 15 (.bin .lss) [t 11, t 14]]
def c40_3 : EC := .rg c40_3l false
@[simp] theorem c40_3e : Rg c40_3 c40_3l false := rgE _ _
def c40_4 : EC := .cd (t 15) .skip (.ex 0)
@[simp] theorem c40_4e : Cd c40_4 (t 15) .skip (.ex 0) := cdE _ _ _
def c40_5 : EC := .sq c40_3 c40_4
@[simp] theorem c40_5e : Sq c40_5 c40_3 c40_4 := sqE _ _
@[simp] def c40_6l : List EO := [o 9 .mv [i 0]]
def c40_6 : EC := .rg c40_6l false
@[simp] theorem c40_6e : Rg c40_6 c40_6l false := rgE _ _
@[simp] def c40_7l : List EO := [m 18 9,
 o 19 (.faddr 2) [t 3],
 o 20 (.load 1 false) [t 19],
 m 21 8,
 o 22 (.iaS 5) [t 20, t 21],
 o 23 (.faddr 4) [t 22],
 o 24 (.load 1 false) [t 23],
 o 25 .lenL [t 24],
 o 26 (.bin .lss) [t 18, t 25]]
def c40_7 : EC := .rg c40_7l false
@[simp] theorem c40_7e : Rg c40_7 c40_7l false := rgE _ _
def c40_8 : EC := .cd (t 26) .skip (.ex 2)
@[simp] theorem c40_8e : Cd c40_8 (t 26) .skip (.ex 2) := cdE _ _ _
def c40_9 : EC := .sq c40_7 c40_8
@[simp] theorem c40_9e : Sq c40_9 c40_7 c40_8 := sqE _ _
@[simp] def c40_10l : List EO := [o 29 (.faddr 2) [t 3],
 o 30 (.load 1 false) [t 29],
 m 31 8,
 o 32 (.iaS 5) [t 30, t 31],
 o 33 (.faddr 4) [t 32],
 o 34 (.load 1 false) [t 33],
 m 35 9,
 o 36 (.iaS 2) [t 34, t 35],
 o 37 (.load 2 true) [t 36],
 o 10 (.alloc [.t (.int .i64 0), .t (.int .i64 0)]) [],
 u (.store 2) [t 10, t 37]]
def c40_10 : EC := .rg c40_10l false
@[simp] theorem c40_10e : Rg c40_10 c40_10l false := rgE _ _
@[simp] def c40_11l : List EO := [o 38 (.faddr 0) [t 10],
 o 39 (.load 1 false) [t 38],
 m 40 1,
 o 41 (.bin .eql) [t 39, t 40],
 m 42 41,
 y 43 42 .mv [t 2],
 y 44 42 (.bin .eql) [t 43, i (-1)],
 y 45 42 .mv [t 44],
 n 46 45 (.faddr 2) [t 3],
 n 47 45 (.load 1 false) [t 46],
 n 48 45 .mv [t 8],
 n 49 45 (.iaS 5) [t 47, t 48],
 n 50 45 (.faddr 0) [t 49],
 n 51 45 (.load 1 false) [t 50],
 n 52 45 .mv [t 2],
 n 53 45 (.bin .eql) [t 51, t 52],
 y 54 42 .pick [t 45, b true, t 53],
 o 55 .pick [t 42, t 54, b false]]
def c40_11 : EC := .rg c40_11l false
@[simp] theorem c40_11e : Rg c40_11 c40_11l false := rgE _ _
@[simp] def c40_12l : List EO := [m 56 7,
 o 57 (.faddr 1) [t 10],
 o 58 (.load 1 false) [t 57],
 o 59 (.bin .add) [t 56, t 58],
 m 7 59]
def c40_12 : EC := .rg c40_12l false
@[simp] theorem c40_12e : Rg c40_12 c40_12l false := rgE _ _
def c40_13 : EC := .cd (t 55) c40_12 .skip
@[simp] theorem c40_13e : Cd c40_13 (t 55) c40_12 .skip := cdE _ _ _
def c40_14 : EC := .sq c40_11 c40_13
@[simp] theorem c40_14e : Sq c40_14 c40_11 c40_13 := sqE _ _
def c40_15 : EC := .sq c40_10 c40_14
@[simp] theorem c40_15e : Sq c40_15 c40_10 c40_14 := sqE _ _
def c40_16 : EC := .bk 3 c40_15
@[simp] theorem c40_16e : Bk c40_16 3 c40_15 := bkE _ _
@[simp] def c40_17l : List EO := [m 27 9,
 o 28 (.bin .add) [t 27, i 1],
 m 9 28]
def c40_17 : EC := .rg c40_17l false
@[simp] theorem c40_17e : Rg c40_17 c40_17l false := rgE _ _
def c40_18 : EC := .sq c40_16 c40_17
@[simp] theorem c40_18e : Sq c40_18 c40_16 c40_17 := sqE _ _
def c40_19 : EC := .sq c40_9 c40_18
@[simp] theorem c40_19e : Sq c40_19 c40_9 c40_18 := sqE _ _
def c40_20 : EC := .bk 2 (.lp c40_19)
@[simp] theorem c40_20e : Bk c40_20 2 (.lp c40_19) := bkE _ _
def c40_21 : EC := .sq c40_6 c40_20
@[simp] theorem c40_21e : Sq c40_21 c40_6 c40_20 := sqE _ _
def c40_22 : EC := .bk 1 c40_21
@[simp] theorem c40_22e : Bk c40_22 1 c40_21 := bkE _ _
@[simp] def c40_23l : List EO := [m 16 8,
 o 17 (.bin .add) [t 16, i 1],
 m 8 17]
def c40_23 : EC := .rg c40_23l false
@[simp] theorem c40_23e : Rg c40_23 c40_23l false := rgE _ _
def c40_24 : EC := .sq c40_22 c40_23
@[simp] theorem c40_24e : Sq c40_24 c40_22 c40_23 := sqE _ _
def c40_25 : EC := .sq c40_5 c40_24
@[simp] theorem c40_25e : Sq c40_25 c40_5 c40_24 := sqE _ _
def c40_26 : EC := .bk 0 (.lp c40_25)
@[simp] theorem c40_26e : Bk c40_26 0 (.lp c40_25) := bkE _ _
def c40_27 : EC := .sq c40_2 c40_26
@[simp] theorem c40_27e : Sq c40_27 c40_2 c40_26 := sqE _ _
@[simp] def c40_28l : List EO := [m 60 7,
 m 6 60]
def c40_28 : EC := .rg c40_28l false
@[simp] theorem c40_28e : Rg c40_28 c40_28l false := rgE _ _
def c40_29 : EC := .sq c40_28 .rt
@[simp] theorem c40_29e : Sq c40_29 c40_28 .rt := sqE _ _
def c40_30 : EC := .sq c40_27 c40_29
@[simp] theorem c40_30e : Sq c40_30 c40_27 c40_29 := sqE _ _
def c40_31 : EC := .sq c40_1 c40_30
@[simp] theorem c40_31e : Sq c40_31 c40_1 c40_30 := sqE _ _
def c40_32 : EC := .sq c40_0 c40_31
@[simp] theorem c40_32e : Sq c40_32 c40_0 c40_31 := sqE _ _
def c_tallystoneref52_parts_40 : EC := c40_32
theorem k_40 : ecF Try.prog 40 = some (61, c_tallystoneref52_parts_40, [.tm 6]) := by kernel_rfl

/-- tallystone/tallystoneref04.Valid -/
@[simp] def c41_0l : List EO := [o 2 .mv [b false]]
def c41_0 : EC := .rg c41_0l false
@[simp] theorem c41_0e : Rg c41_0 c41_0l false := rgE _ _
@[simp] def c41_1l : List EO := [m 3 0,
 o 4 (.bin .geq) [t 3, i (-1000000000000)],
 m 5 4,
 y 6 5 .mv [t 0],
 y 7 5 (.bin .leq) [t 6, i 1000000000000],
 o 8 .pick [t 5, t 7, b false],
 m 2 8]
def c41_1 : EC := .rg c41_1l false
@[simp] theorem c41_1e : Rg c41_1 c41_1l false := rgE _ _
def c41_2 : EC := .sq c41_1 .rt
@[simp] theorem c41_2e : Sq c41_2 c41_1 .rt := sqE _ _
def c41_3 : EC := .sq c41_0 c41_2
@[simp] theorem c41_3e : Sq c41_3 c41_0 c41_2 := sqE _ _
def c_tallystoneref04_Valid_41 : EC := c41_3
theorem k_41 : ecF Try.prog 41 = some (9, c_tallystoneref04_Valid_41, [.tm 2]) := by kernel_rfl

/-- tallystone/tallystoneref10.books -/
@[simp] def c42_0l : List EO := [o 1 .box [t 0],
 o 2 .mv [b false]]
def c42_0 : EC := .rg c42_0l false
@[simp] theorem c42_0e : Rg c42_0 c42_0l false := rgE _ _
@[simp] def c42_1l : List EO := [o 9 (.faddr 0) [t 1],
 o 10 (.load 1 false) [t 9],
 o 11 (.call 60) [t 10],
 o 12 (.un .not) [t 11],
 m 13 12,
 n 14 13 (.faddr 1) [t 1],
 n 15 13 (.load 3 true) [t 14],
 n 16 13 (.call 61) [t 15],
 n 17 13 (.un .not) [t 16],
 o 18 .pick [t 13, b true, t 17],
 m 19 18,
 n 20 19 (.faddr 4) [t 1],
 n 21 19 (.load 1 false) [t 20],
 n 22 19 (.call 62) [t 21, b true],
 n 23 19 (.un .not) [t 22],
 o 24 .pick [t 19, b true, t 23]]
def c42_1 : EC := .rg c42_1l false
@[simp] theorem c42_1e : Rg c42_1 c42_1l false := rgE _ _
@[simp] def c42_2l : List EO := [o 2 .mv [b false]]
def c42_2 : EC := .rg c42_2l false
@[simp] theorem c42_2e : Rg c42_2 c42_2l false := rgE _ _
def c42_3 : EC := .sq c42_2 .rt
@[simp] theorem c42_3e : Sq c42_3 c42_2 .rt := sqE _ _
def c42_4 : EC := .cd (t 24) c42_3 .skip
@[simp] theorem c42_4e : Cd c42_4 (t 24) c42_3 .skip := cdE _ _ _
def c42_5 : EC := .sq c42_1 c42_4
@[simp] theorem c42_5e : Sq c42_5 c42_1 c42_4 := sqE _ _
@[simp] def c42_6l : List EO := [o 3 .mv [i 0]]
def c42_6 : EC := .rg c42_6l false
@[simp] theorem c42_6e : Rg c42_6 c42_6l false := rgE _ _
@[simp] def c42_7l : List EO := [m 25 3,
 o 26 (.faddr 4) [t 1],
 o 27 (.load 1 false) [t 26],
 o 28 .lenL [t 27],
 o 29 (.bin .lss) [t 25, t 28]]
def c42_7 : EC := .rg c42_7l false
@[simp] theorem c42_7e : Rg c42_7 c42_7l false := rgE _ _
def c42_8 : EC := .cd (t 29) .skip (.ex 0)
@[simp] theorem c42_8e : Cd c42_8 (t 29) .skip (.ex 0) := cdE _ _ _
def c42_9 : EC := .sq c42_7 c42_8
@[simp] theorem c42_9e : Sq c42_9 c42_7 c42_8 := sqE _ _
@[simp] def c42_10l : List EO := [o 32 (.faddr 4) [t 1],
 o 33 (.load 1 false) [t 32],
 m 34 3,
 o 35 (.iaS 4) [t 33, t 34],
 o 36 (.load 4 true) [t 35],
 o 37 (.call 63) [t 36],
 o 38 (.un .not) [t 37]]
def c42_10 : EC := .rg c42_10l false
@[simp] theorem c42_10e : Rg c42_10 c42_10l false := rgE _ _
@[simp] def c42_11l : List EO := [o 2 .mv [b false]]
def c42_11 : EC := .rg c42_11l false
@[simp] theorem c42_11e : Rg c42_11 c42_11l false := rgE _ _
def c42_12 : EC := .sq c42_11 .rt
@[simp] theorem c42_12e : Sq c42_12 c42_11 .rt := sqE _ _
def c42_13 : EC := .cd (t 38) c42_12 .skip
@[simp] theorem c42_13e : Cd c42_13 (t 38) c42_12 .skip := cdE _ _ _
def c42_14 : EC := .sq c42_10 c42_13
@[simp] theorem c42_14e : Sq c42_14 c42_10 c42_13 := sqE _ _
def c42_15 : EC := .bk 1 c42_14
@[simp] theorem c42_15e : Bk c42_15 1 c42_14 := bkE _ _
@[simp] def c42_16l : List EO := [m 30 3,
 o 31 (.bin .add) [t 30, i 1],
 m 3 31]
def c42_16 : EC := .rg c42_16l false
@[simp] theorem c42_16e : Rg c42_16 c42_16l false := rgE _ _
def c42_17 : EC := .sq c42_15 c42_16
@[simp] theorem c42_17e : Sq c42_17 c42_15 c42_16 := sqE _ _
def c42_18 : EC := .sq c42_9 c42_17
@[simp] theorem c42_18e : Sq c42_18 c42_9 c42_17 := sqE _ _
def c42_19 : EC := .bk 0 (.lp c42_18)
@[simp] theorem c42_19e : Bk c42_19 0 (.lp c42_18) := bkE _ _
def c42_20 : EC := .sq c42_6 c42_19
@[simp] theorem c42_20e : Sq c42_20 c42_6 c42_19 := sqE _ _
@[simp] def c42_21l : List EO := [o 39 (.faddr 5) [t 1],
 o 40 (.load 15 true) [t 39],
 o 41 (.call 64) [t 40],
 m 4 41]
def c42_21 : EC := .rg c42_21l false
@[simp] theorem c42_21e : Rg c42_21 c42_21l false := rgE _ _
@[simp] def c42_22l : List EO := [o 5 .mv [i 0]]
def c42_22 : EC := .rg c42_22l false
@[simp] theorem c42_22e : Rg c42_22 c42_22l false := rgE _ _
@[simp] def c42_23l : List EO := [m 42 5,
 m 43 4,
 o 44 .lenL [t 43],
 o 45 (.bin .lss) [t 42, t 44]]
def c42_23 : EC := .rg c42_23l false
@[simp] theorem c42_23e : Rg c42_23 c42_23l false := rgE _ _
def c42_24 : EC := .cd (t 45) .skip (.ex 2)
@[simp] theorem c42_24e : Cd c42_24 (t 45) .skip (.ex 2) := cdE _ _ _
def c42_25 : EC := .sq c42_23 c42_24
@[simp] theorem c42_25e : Sq c42_25 c42_23 c42_24 := sqE _ _
@[simp] def c42_26l : List EO := [o 49 (.load 21 true) [t 1],
 m 50 4,
 m 51 5,
 o 52 (.iaS 5) [t 50, t 51],
 o 53 (.faddr 1) [t 52],
 o 54 (.load 1 false) [t 53],
 o 55 (.call 26) [t 49, t 54],
 m 48 55,
 o 56 (.ext 0) [t 48],
 o 57 (.ext 1) [t 48],
 o 6 (.alloc [.t (.int .i64 0), .t (.int .i64 0), .t (.int .i64 0), .t (.int .i64 0)]) [],
 u (.store 4) [t 6, t 56],
 m 7 57]
def c42_26 : EC := .rg c42_26l true
@[simp] theorem c42_26e : Rg c42_26 c42_26l true := rgE _ _
@[simp] def c42_27l : List EO := [m 58 7,
 o 59 (.un .not) [t 58],
 m 60 59,
 n 61 60 (.faddr 1) [t 6],
 n 62 60 (.load 1 false) [t 61],
 n 63 60 .mv [t 4],
 n 64 60 .mv [t 5],
 n 65 60 (.iaS 5) [t 63, t 64],
 n 66 60 (.faddr 2) [t 65],
 n 67 60 (.load 1 false) [t 66],
 n 68 60 (.bin .neq) [t 62, t 67],
 o 69 .pick [t 60, b true, t 68],
 m 70 69,
 n 71 70 (.faddr 2) [t 6],
 n 72 70 (.load 1 false) [t 71],
 n 73 70 .mv [t 4],
 n 74 70 .mv [t 5],
 n 75 70 (.iaS 5) [t 73, t 74],
 n 76 70 (.faddr 3) [t 75],
 n 77 70 (.load 1 false) [t 76],
 n 78 70 (.bin .neq) [t 72, t 77],
 o 79 .pick [t 70, b true, t 78]]
def c42_27 : EC := .rg c42_27l true
@[simp] theorem c42_27e : Rg c42_27 c42_27l true := rgE _ _
@[simp] def c42_28l : List EO := [o 2 .mv [b false]]
def c42_28 : EC := .rg c42_28l false
@[simp] theorem c42_28e : Rg c42_28 c42_28l false := rgE _ _
def c42_29 : EC := .sq c42_28 .rt
@[simp] theorem c42_29e : Sq c42_29 c42_28 .rt := sqE _ _
def c42_30 : EC := .cd (t 79) c42_29 .skip
@[simp] theorem c42_30e : Cd c42_30 (t 79) c42_29 .skip := cdE _ _ _
def c42_31 : EC := .sq c42_27 c42_30
@[simp] theorem c42_31e : Sq c42_31 c42_27 c42_30 := sqE _ _
@[simp] def c42_32l : List EO := [o 8 .mv [i 0]]
def c42_32 : EC := .rg c42_32l false
@[simp] theorem c42_32e : Rg c42_32 c42_32l false := rgE _ _
@[simp] def c42_33l : List EO := [m 80 8,
 m 81 5,
 o 82 (.bin .lss) [t 80, t 81]]
def c42_33 : EC := .rg c42_33l false
@[simp] theorem c42_33e : Rg c42_33 c42_33l false := rgE _ _
def c42_34 : EC := .cd (t 82) .skip (.ex 4)
@[simp] theorem c42_34e : Cd c42_34 (t 82) .skip (.ex 4) := cdE _ _ _
def c42_35 : EC := .sq c42_33 c42_34
@[simp] theorem c42_35e : Sq c42_35 c42_33 c42_34 := sqE _ _
@[simp] def c42_36l : List EO := [m 85 4,
 m 86 8,
 o 87 (.iaS 5) [t 85, t 86],
 o 88 (.faddr 1) [t 87],
 o 89 (.load 1 false) [t 88],
 m 90 4,
 m 91 5,
 o 92 (.iaS 5) [t 90, t 91],
 o 93 (.faddr 1) [t 92],
 o 94 (.load 1 false) [t 93],
 o 95 (.bin .eql) [t 89, t 94]]
def c42_36 : EC := .rg c42_36l true
@[simp] theorem c42_36e : Rg c42_36 c42_36l true := rgE _ _
@[simp] def c42_37l : List EO := [o 2 .mv [b false]]
def c42_37 : EC := .rg c42_37l false
@[simp] theorem c42_37e : Rg c42_37 c42_37l false := rgE _ _
def c42_38 : EC := .sq c42_37 .rt
@[simp] theorem c42_38e : Sq c42_38 c42_37 .rt := sqE _ _
def c42_39 : EC := .cd (t 95) c42_38 .skip
@[simp] theorem c42_39e : Cd c42_39 (t 95) c42_38 .skip := cdE _ _ _
def c42_40 : EC := .sq c42_36 c42_39
@[simp] theorem c42_40e : Sq c42_40 c42_36 c42_39 := sqE _ _
def c42_41 : EC := .bk 5 c42_40
@[simp] theorem c42_41e : Bk c42_41 5 c42_40 := bkE _ _
@[simp] def c42_42l : List EO := [m 83 8,
 o 84 (.bin .add) [t 83, i 1],
 m 8 84]
def c42_42 : EC := .rg c42_42l false
@[simp] theorem c42_42e : Rg c42_42 c42_42l false := rgE _ _
def c42_43 : EC := .sq c42_41 c42_42
@[simp] theorem c42_43e : Sq c42_43 c42_41 c42_42 := sqE _ _
def c42_44 : EC := .sq c42_35 c42_43
@[simp] theorem c42_44e : Sq c42_44 c42_35 c42_43 := sqE _ _
def c42_45 : EC := .bk 4 (.lp c42_44)
@[simp] theorem c42_45e : Bk c42_45 4 (.lp c42_44) := bkE _ _
def c42_46 : EC := .sq c42_32 c42_45
@[simp] theorem c42_46e : Sq c42_46 c42_32 c42_45 := sqE _ _
def c42_47 : EC := .sq c42_31 c42_46
@[simp] theorem c42_47e : Sq c42_47 c42_31 c42_46 := sqE _ _
def c42_48 : EC := .sq c42_26 c42_47
@[simp] theorem c42_48e : Sq c42_48 c42_26 c42_47 := sqE _ _
def c42_49 : EC := .bk 3 c42_48
@[simp] theorem c42_49e : Bk c42_49 3 c42_48 := bkE _ _
@[simp] def c42_50l : List EO := [m 46 5,
 o 47 (.bin .add) [t 46, i 1],
 m 5 47]
def c42_50 : EC := .rg c42_50l false
@[simp] theorem c42_50e : Rg c42_50 c42_50l false := rgE _ _
def c42_51 : EC := .sq c42_49 c42_50
@[simp] theorem c42_51e : Sq c42_51 c42_49 c42_50 := sqE _ _
def c42_52 : EC := .sq c42_25 c42_51
@[simp] theorem c42_52e : Sq c42_52 c42_25 c42_51 := sqE _ _
def c42_53 : EC := .bk 2 (.lp c42_52)
@[simp] theorem c42_53e : Bk c42_53 2 (.lp c42_52) := bkE _ _
def c42_54 : EC := .sq c42_22 c42_53
@[simp] theorem c42_54e : Sq c42_54 c42_22 c42_53 := sqE _ _
@[simp] def c42_55l : List EO := [o 2 .mv [b true]]
def c42_55 : EC := .rg c42_55l false
@[simp] theorem c42_55e : Rg c42_55 c42_55l false := rgE _ _
def c42_56 : EC := .sq c42_55 .rt
@[simp] theorem c42_56e : Sq c42_56 c42_55 .rt := sqE _ _
def c42_57 : EC := .sq c42_54 c42_56
@[simp] theorem c42_57e : Sq c42_57 c42_54 c42_56 := sqE _ _
def c42_58 : EC := .sq c42_21 c42_57
@[simp] theorem c42_58e : Sq c42_58 c42_21 c42_57 := sqE _ _
def c42_59 : EC := .sq c42_20 c42_58
@[simp] theorem c42_59e : Sq c42_59 c42_20 c42_58 := sqE _ _
def c42_60 : EC := .sq c42_5 c42_59
@[simp] theorem c42_60e : Sq c42_60 c42_5 c42_59 := sqE _ _
def c42_61 : EC := .sq c42_0 c42_60
@[simp] theorem c42_61e : Sq c42_61 c42_0 c42_60 := sqE _ _
def c_tallystoneref10_books_42 : EC := c42_61
theorem k_42 : ecF Try.prog 42 = some (96, c_tallystoneref10_books_42, [.tm 2]) := by kernel_rfl

/-- tallystone/tallystoneref10.Find -/
@[simp] def c43_0l : List EO := [o 2 .box [t 0],
 o 4 .mv [i 0],
 o 5 .mv [b false]]
def c43_0 : EC := .rg c43_0l false
@[simp] theorem c43_0e : Rg c43_0 c43_0l false := rgE _ _
@[simp] def c43_1l : List EO := [o 6 .mv [i 0]]
def c43_1 : EC := .rg c43_1l false
@[simp] theorem c43_1e : Rg c43_1 c43_1l false := rgE _ _
@[simp] def c43_2l : List EO := [m 7 6,
 o 8 (.faddr 20) [t 2],
 o 9 (.load 1 false) [t 8],
 o 10 .lenL [t 9],
 o 11 (.bin .lss) [t 7, t 10]]
def c43_2 : EC := .rg c43_2l false
@[simp] theorem c43_2e : Rg c43_2 c43_2l false := rgE _ _
def c43_3 : EC := .cd (t 11) .skip (.ex 0)
@[simp] theorem c43_3e : Cd c43_3 (t 11) .skip (.ex 0) := cdE _ _ _
def c43_4 : EC := .sq c43_2 c43_3
@[simp] theorem c43_4e : Sq c43_4 c43_2 c43_3 := sqE _ _
@[simp] def c43_5l : List EO := [o 14 (.faddr 20) [t 2],
 o 15 (.load 1 false) [t 14],
 m 16 6,
 o 17 (.iaS 5) [t 15, t 16],
 o 18 (.faddr 0) [t 17],
 o 19 (.load 1 false) [t 18],
 m 20 1,
 o 21 (.bin .eql) [t 19, t 20]]
def c43_5 : EC := .rg c43_5l false
@[simp] theorem c43_5e : Rg c43_5 c43_5l false := rgE _ _
@[simp] def c43_6l : List EO := [m 22 6,
 m 4 22,
 o 5 .mv [b true]]
def c43_6 : EC := .rg c43_6l false
@[simp] theorem c43_6e : Rg c43_6 c43_6l false := rgE _ _
def c43_7 : EC := .sq c43_6 .rt
@[simp] theorem c43_7e : Sq c43_7 c43_6 .rt := sqE _ _
def c43_8 : EC := .cd (t 21) c43_7 .skip
@[simp] theorem c43_8e : Cd c43_8 (t 21) c43_7 .skip := cdE _ _ _
def c43_9 : EC := .sq c43_5 c43_8
@[simp] theorem c43_9e : Sq c43_9 c43_5 c43_8 := sqE _ _
def c43_10 : EC := .bk 1 c43_9
@[simp] theorem c43_10e : Bk c43_10 1 c43_9 := bkE _ _
@[simp] def c43_11l : List EO := [m 12 6,
 o 13 (.bin .add) [t 12, i 1],
 m 6 13]
def c43_11 : EC := .rg c43_11l false
@[simp] theorem c43_11e : Rg c43_11 c43_11l false := rgE _ _
def c43_12 : EC := .sq c43_10 c43_11
@[simp] theorem c43_12e : Sq c43_12 c43_10 c43_11 := sqE _ _
def c43_13 : EC := .sq c43_4 c43_12
@[simp] theorem c43_13e : Sq c43_13 c43_4 c43_12 := sqE _ _
def c43_14 : EC := .bk 0 (.lp c43_13)
@[simp] theorem c43_14e : Bk c43_14 0 (.lp c43_13) := bkE _ _
def c43_15 : EC := .sq c43_1 c43_14
@[simp] theorem c43_15e : Sq c43_15 c43_1 c43_14 := sqE _ _
@[simp] def c43_16l : List EO := [o 4 .mv [i 0],
 o 5 .mv [b false]]
def c43_16 : EC := .rg c43_16l false
@[simp] theorem c43_16e : Rg c43_16 c43_16l false := rgE _ _
def c43_17 : EC := .sq c43_16 .rt
@[simp] theorem c43_17e : Sq c43_17 c43_16 .rt := sqE _ _
def c43_18 : EC := .sq c43_15 c43_17
@[simp] theorem c43_18e : Sq c43_18 c43_15 c43_17 := sqE _ _
def c43_19 : EC := .sq c43_0 c43_18
@[simp] theorem c43_19e : Sq c43_19 c43_0 c43_18 := sqE _ _
def c_tallystoneref10_Find_43 : EC := c43_19
theorem k_43 : ecF Try.prog 43 = some (23, c_tallystoneref10_Find_43, [.tm 4, .tm 5]) := by kernel_rfl

/-- tallystone/tallystoneref10.entity -/
@[simp] def c44_0l : List EO := [o 2 .box [t 0],
 o 3 .box [t 1],
 o 4 .mv [b false]]
def c44_0 : EC := .rg c44_0l false
@[simp] theorem c44_0e : Rg c44_0 c44_0l false := rgE _ _
@[simp] def c44_1l : List EO := [o 8 (.faddr 0) [t 3],
 o 9 (.load 1 false) [t 8],
 o 10 (.call 65) [t 9],
 o 11 (.un .not) [t 10],
 m 12 11,
 n 13 12 (.faddr 1) [t 3],
 n 14 12 (.load 1 false) [t 13],
 n 15 12 (.call 60) [t 14],
 n 16 12 (.un .not) [t 15],
 o 17 .pick [t 12, b true, t 16],
 m 18 17,
 n 19 18 (.load 5 true) [t 3],
 n 20 18 (.faddr 4) [t 2],
 n 21 18 (.load 1 false) [t 20],
 n 22 18 (.call 66) [t 19, t 21],
 n 23 18 (.un .not) [t 22],
 o 24 .pick [t 18, b true, t 23]]
def c44_1 : EC := .rg c44_1l false
@[simp] theorem c44_1e : Rg c44_1 c44_1l false := rgE _ _
@[simp] def c44_2l : List EO := [o 4 .mv [b false]]
def c44_2 : EC := .rg c44_2l false
@[simp] theorem c44_2e : Rg c44_2 c44_2l false := rgE _ _
def c44_3 : EC := .sq c44_2 .rt
@[simp] theorem c44_3e : Sq c44_3 c44_2 .rt := sqE _ _
def c44_4 : EC := .cd (t 24) c44_3 .skip
@[simp] theorem c44_4e : Cd c44_4 (t 24) c44_3 .skip := cdE _ _ _
def c44_5 : EC := .sq c44_1 c44_4
@[simp] theorem c44_5e : Sq c44_5 c44_1 c44_4 := sqE _ _
@[simp] def c44_6l : List EO := [o 25 (.faddr 5) [t 2],
 o 26 (.load 15 true) [t 25],
 o 27 (.call 64) [t 26],
 m 5 27]
def c44_6 : EC := .rg c44_6l false
@[simp] theorem c44_6e : Rg c44_6 c44_6l false := rgE _ _
@[simp] def c44_7l : List EO := [o 6 .mv [i 0]]
def c44_7 : EC := .rg c44_7l false
@[simp] theorem c44_7e : Rg c44_7 c44_7l false := rgE _ _
@[simp] def c44_8l : List EO := [m 28 6,
 o 29 (.faddr 3) [t 3],
 o 30 (.load 1 false) [t 29],
 o 31 .lenL [t 30],
 o 32 (.bin .lss) [t 28, t 31]]
def c44_8 : EC := .rg c44_8l false
@[simp] theorem c44_8e : Rg c44_8 c44_8l false := rgE _ _
def c44_9 : EC := .cd (t 32) .skip (.ex 0)
@[simp] theorem c44_9e : Cd c44_9 (t 32) .skip (.ex 0) := cdE _ _ _
def c44_10 : EC := .sq c44_8 c44_9
@[simp] theorem c44_10e : Sq c44_10 c44_8 c44_9 := sqE _ _
@[simp] def c44_11l : List EO := [o 7 .mv [i 0]]
def c44_11 : EC := .rg c44_11l false
@[simp] theorem c44_11e : Rg c44_11 c44_11l false := rgE _ _
@[simp] def c44_12l : List EO := [m 35 7,
 m 36 5,
 o 37 .lenL [t 36],
 o 38 (.bin .lss) [t 35, t 37]]
def c44_12 : EC := .rg c44_12l false
@[simp] theorem c44_12e : Rg c44_12 c44_12l false := rgE _ _
def c44_13 : EC := .cd (t 38) .skip (.ex 2)
@[simp] theorem c44_13e : Cd c44_13 (t 38) .skip (.ex 2) := cdE _ _ _
def c44_14 : EC := .sq c44_12 c44_13
@[simp] theorem c44_14e : Sq c44_14 c44_12 c44_13 := sqE _ _
@[simp] def c44_15l : List EO := [o 41 (.faddr 3) [t 3],
 o 42 (.load 1 false) [t 41],
 m 43 6,
 o 44 (.iaS 3) [t 42, t 43],
 o 45 (.faddr 1) [t 44],
 o 46 (.load 1 false) [t 45],
 m 47 5,
 m 48 7,
 o 49 (.iaS 5) [t 47, t 48],
 o 50 (.faddr 1) [t 49],
 o 51 (.load 1 false) [t 50],
 o 52 (.bin .eql) [t 46, t 51],
 m 53 52,
 y 54 53 .mv [t 5],
 y 55 53 .mv [t 7],
 y 56 53 (.iaS 5) [t 54, t 55],
 y 57 53 (.faddr 4) [t 56],
 y 58 53 (.load 1 false) [t 57],
 y 59 53 (.un .not) [t 58],
 o 60 .pick [t 53, t 59, b false]]
def c44_15 : EC := .rg c44_15l true
@[simp] theorem c44_15e : Rg c44_15 c44_15l true := rgE _ _
@[simp] def c44_16l : List EO := [o 4 .mv [b false]]
def c44_16 : EC := .rg c44_16l false
@[simp] theorem c44_16e : Rg c44_16 c44_16l false := rgE _ _
def c44_17 : EC := .sq c44_16 .rt
@[simp] theorem c44_17e : Sq c44_17 c44_16 .rt := sqE _ _
def c44_18 : EC := .cd (t 60) c44_17 .skip
@[simp] theorem c44_18e : Cd c44_18 (t 60) c44_17 .skip := cdE _ _ _
def c44_19 : EC := .sq c44_15 c44_18
@[simp] theorem c44_19e : Sq c44_19 c44_15 c44_18 := sqE _ _
def c44_20 : EC := .bk 3 c44_19
@[simp] theorem c44_20e : Bk c44_20 3 c44_19 := bkE _ _
@[simp] def c44_21l : List EO := [m 39 7,
 o 40 (.bin .add) [t 39, i 1],
 m 7 40]
def c44_21 : EC := .rg c44_21l false
@[simp] theorem c44_21e : Rg c44_21 c44_21l false := rgE _ _
def c44_22 : EC := .sq c44_20 c44_21
@[simp] theorem c44_22e : Sq c44_22 c44_20 c44_21 := sqE _ _
def c44_23 : EC := .sq c44_14 c44_22
@[simp] theorem c44_23e : Sq c44_23 c44_14 c44_22 := sqE _ _
def c44_24 : EC := .bk 2 (.lp c44_23)
@[simp] theorem c44_24e : Bk c44_24 2 (.lp c44_23) := bkE _ _
def c44_25 : EC := .sq c44_11 c44_24
@[simp] theorem c44_25e : Sq c44_25 c44_11 c44_24 := sqE _ _
def c44_26 : EC := .bk 1 c44_25
@[simp] theorem c44_26e : Bk c44_26 1 c44_25 := bkE _ _
@[simp] def c44_27l : List EO := [m 33 6,
 o 34 (.bin .add) [t 33, i 1],
 m 6 34]
def c44_27 : EC := .rg c44_27l false
@[simp] theorem c44_27e : Rg c44_27 c44_27l false := rgE _ _
def c44_28 : EC := .sq c44_26 c44_27
@[simp] theorem c44_28e : Sq c44_28 c44_26 c44_27 := sqE _ _
def c44_29 : EC := .sq c44_10 c44_28
@[simp] theorem c44_29e : Sq c44_29 c44_10 c44_28 := sqE _ _
def c44_30 : EC := .bk 0 (.lp c44_29)
@[simp] theorem c44_30e : Bk c44_30 0 (.lp c44_29) := bkE _ _
def c44_31 : EC := .sq c44_7 c44_30
@[simp] theorem c44_31e : Sq c44_31 c44_7 c44_30 := sqE _ _
@[simp] def c44_32l : List EO := [o 4 .mv [b true]]
def c44_32 : EC := .rg c44_32l false
@[simp] theorem c44_32e : Rg c44_32 c44_32l false := rgE _ _
def c44_33 : EC := .sq c44_32 .rt
@[simp] theorem c44_33e : Sq c44_33 c44_32 .rt := sqE _ _
def c44_34 : EC := .sq c44_31 c44_33
@[simp] theorem c44_34e : Sq c44_34 c44_31 c44_33 := sqE _ _
def c44_35 : EC := .sq c44_6 c44_34
@[simp] theorem c44_35e : Sq c44_35 c44_6 c44_34 := sqE _ _
def c44_36 : EC := .sq c44_5 c44_35
@[simp] theorem c44_36e : Sq c44_36 c44_5 c44_35 := sqE _ _
def c44_37 : EC := .sq c44_0 c44_36
@[simp] theorem c44_37e : Sq c44_37 c44_0 c44_36 := sqE _ _
def c_tallystoneref10_entity_44 : EC := c44_37
theorem k_44 : ecF Try.prog 44 = some (61, c_tallystoneref10_entity_44, [.tm 4]) := by kernel_rfl

/-- tallystone/tallystoneref07.check -/
@[simp] def c45_0l : List EO := [o 2 .box [t 0],
 o 4 .mv [i 0]]
def c45_0 : EC := .rg c45_0l false
@[simp] theorem c45_0e : Rg c45_0 c45_0l false := rgE _ _
@[simp] def c45_1l : List EO := [o 5 (.load 3 true) [t 2],
 o 6 (.call 61) [t 5],
 o 7 (.un .not) [t 6]]
def c45_1 : EC := .rg c45_1l false
@[simp] theorem c45_1e : Rg c45_1 c45_1l false := rgE _ _
@[simp] def c45_2l : List EO := [o 4 .mv [i 1]]
def c45_2 : EC := .rg c45_2l false
@[simp] theorem c45_2e : Rg c45_2 c45_2l false := rgE _ _
def c45_3 : EC := .sq c45_2 .rt
@[simp] theorem c45_3e : Sq c45_3 c45_2 .rt := sqE _ _
def c45_4 : EC := .cd (t 7) c45_3 .skip
@[simp] theorem c45_4e : Cd c45_4 (t 7) c45_3 .skip := cdE _ _ _
def c45_5 : EC := .sq c45_1 c45_4
@[simp] theorem c45_5e : Sq c45_5 c45_1 c45_4 := sqE _ _
@[simp] def c45_6l : List EO := [m 8 1,
 o 9 (.bin .lss) [t 8, i 0],
 m 10 9,
 n 11 10 .mv [t 1],
 n 12 10 (.faddr 2) [t 2],
 n 13 10 (.load 1 false) [t 12],
 n 14 10 (.bin .geq) [t 11, t 13],
 o 15 .pick [t 10, b true, t 14]]
def c45_6 : EC := .rg c45_6l false
@[simp] theorem c45_6e : Rg c45_6 c45_6l false := rgE _ _
@[simp] def c45_7l : List EO := [o 4 .mv [i 2]]
def c45_7 : EC := .rg c45_7l false
@[simp] theorem c45_7e : Rg c45_7 c45_7l false := rgE _ _
def c45_8 : EC := .sq c45_7 .rt
@[simp] theorem c45_8e : Sq c45_8 c45_7 .rt := sqE _ _
def c45_9 : EC := .cd (t 15) c45_8 .skip
@[simp] theorem c45_9e : Cd c45_9 (t 15) c45_8 .skip := cdE _ _ _
def c45_10 : EC := .sq c45_6 c45_9
@[simp] theorem c45_10e : Sq c45_10 c45_6 c45_9 := sqE _ _
@[simp] def c45_11l : List EO := [o 4 .mv [i 0]]
def c45_11 : EC := .rg c45_11l false
@[simp] theorem c45_11e : Rg c45_11 c45_11l false := rgE _ _
def c45_12 : EC := .sq c45_11 .rt
@[simp] theorem c45_12e : Sq c45_12 c45_11 .rt := sqE _ _
def c45_13 : EC := .sq c45_10 c45_12
@[simp] theorem c45_13e : Sq c45_13 c45_10 c45_12 := sqE _ _
def c45_14 : EC := .sq c45_5 c45_13
@[simp] theorem c45_14e : Sq c45_14 c45_5 c45_13 := sqE _ _
def c45_15 : EC := .sq c45_0 c45_14
@[simp] theorem c45_15e : Sq c45_15 c45_0 c45_14 := sqE _ _
def c_tallystoneref07_check_45 : EC := c45_15
theorem k_45 : ecF Try.prog 45 = some (16, c_tallystoneref07_check_45, [.tm 4]) := by kernel_rfl

/-- tallystone/tallystoneref07.first -/
@[simp] def c46_0l : List EO := [o 2 .box [t 0],
 o 4 .mv [i 0],
 o 5 .mv [i 0]]
def c46_0 : EC := .rg c46_0l false
@[simp] theorem c46_0e : Rg c46_0 c46_0l false := rgE _ _
@[simp] def c46_1l : List EO := [o 9 (.faddr 0) [t 2],
 o 10 (.load 1 false) [t 9],
 o 11 (.faddr 1) [t 2],
 o 12 (.load 1 false) [t 11],
 o 13 (.call 67) [t 10, t 12, i 1],
 m 8 13,
 o 14 (.ext 0) [t 8],
 o 15 (.ext 1) [t 8],
 m 6 14,
 m 7 15]
def c46_1 : EC := .rg c46_1l false
@[simp] theorem c46_1e : Rg c46_1 c46_1l false := rgE _ _
@[simp] def c46_2l : List EO := [m 16 7,
 o 17 (.bin .neq) [t 16, i 0]]
def c46_2 : EC := .rg c46_2l false
@[simp] theorem c46_2e : Rg c46_2 c46_2l false := rgE _ _
@[simp] def c46_3l : List EO := [m 18 7,
 o 4 .mv [i 0],
 m 5 18]
def c46_3 : EC := .rg c46_3l false
@[simp] theorem c46_3e : Rg c46_3 c46_3l false := rgE _ _
def c46_4 : EC := .sq c46_3 .rt
@[simp] theorem c46_4e : Sq c46_4 c46_3 .rt := sqE _ _
def c46_5 : EC := .cd (t 17) c46_4 .skip
@[simp] theorem c46_5e : Cd c46_5 (t 17) c46_4 .skip := cdE _ _ _
def c46_6 : EC := .sq c46_2 c46_5
@[simp] theorem c46_6e : Sq c46_6 c46_2 c46_5 := sqE _ _
@[simp] def c46_7l : List EO := [m 19 6,
 m 20 1,
 o 21 (.call 68) [t 19, t 20],
 o 22 (.ext 0) [t 21],
 o 23 (.ext 1) [t 21],
 m 4 22,
 m 5 23]
def c46_7 : EC := .rg c46_7l false
@[simp] theorem c46_7e : Rg c46_7 c46_7l false := rgE _ _
def c46_8 : EC := .sq c46_7 .rt
@[simp] theorem c46_8e : Sq c46_8 c46_7 .rt := sqE _ _
def c46_9 : EC := .sq c46_6 c46_8
@[simp] theorem c46_9e : Sq c46_9 c46_6 c46_8 := sqE _ _
def c46_10 : EC := .sq c46_1 c46_9
@[simp] theorem c46_10e : Sq c46_10 c46_1 c46_9 := sqE _ _
def c46_11 : EC := .sq c46_0 c46_10
@[simp] theorem c46_11e : Sq c46_11 c46_0 c46_10 := sqE _ _
def c_tallystoneref07_first_46 : EC := c46_11
theorem k_46 : ecF Try.prog 46 = some (24, c_tallystoneref07_first_46, [.tm 4, .tm 5]) := by kernel_rfl

/-- tallystone/tallystoneref06.Civil -/
@[simp] def c47_0l : List EO := [o 2 .mv [i 0],
 o 3 .mv [i 0],
 o 4 .mv [i 0],
 o 5 .mv [i 0]]
def c47_0 : EC := .rg c47_0l false
@[simp] theorem c47_0e : Rg c47_0 c47_0l false := rgE _ _
@[simp] def c47_1l : List EO := [m 9 0,
 o 10 (.call 69) [t 9],
 o 11 (.un .not) [t 10]]
def c47_1 : EC := .rg c47_1l false
@[simp] theorem c47_1e : Rg c47_1 c47_1l false := rgE _ _
@[simp] def c47_2l : List EO := [o 2 .mv [i 0],
 o 3 .mv [i 0],
 o 4 .mv [i 0],
 o 5 .mv [i 2]]
def c47_2 : EC := .rg c47_2l false
@[simp] theorem c47_2e : Rg c47_2 c47_2l false := rgE _ _
def c47_3 : EC := .sq c47_2 .rt
@[simp] theorem c47_3e : Sq c47_3 c47_2 .rt := sqE _ _
def c47_4 : EC := .cd (t 11) c47_3 .skip
@[simp] theorem c47_4e : Cd c47_4 (t 11) c47_3 .skip := cdE _ _ _
def c47_5 : EC := .sq c47_1 c47_4
@[simp] theorem c47_5e : Sq c47_5 c47_1 c47_4 := sqE _ _
@[simp] def c47_6l : List EO := [m 12 0,
 o 13 (.bin .sub) [t 12, i (-25567)],
 o 6 .mv [i 1900],
 o 7 .mv [i 1],
 m 8 13]
def c47_6 : EC := .rg c47_6l false
@[simp] theorem c47_6e : Rg c47_6 c47_6l false := rgE _ _
@[simp] def c47_7l : List EO := [m 14 6,
 o 15 (.call 70) [t 14],
 m 16 15,
 y 17 16 .mv [t 8],
 y 18 16 (.bin .geq) [t 17, i 366],
 o 19 .pick [t 16, t 18, b false],
 m 20 19,
 n 21 20 .mv [t 6],
 n 22 20 (.call 70) [t 21],
 n 23 20 (.un .not) [t 22],
 n 24 20 .mv [t 23],
 y 25 24 .mv [t 8],
 y 26 24 (.bin .geq) [t 25, i 365],
 n 27 20 .pick [t 24, t 26, b false],
 o 28 .pick [t 20, b true, t 27]]
def c47_7 : EC := .rg c47_7l false
@[simp] theorem c47_7e : Rg c47_7 c47_7l false := rgE _ _
def c47_8 : EC := .cd (t 28) .skip (.ex 0)
@[simp] theorem c47_8e : Cd c47_8 (t 28) .skip (.ex 0) := cdE _ _ _
def c47_9 : EC := .sq c47_7 c47_8
@[simp] theorem c47_9e : Sq c47_9 c47_7 c47_8 := sqE _ _
@[simp] def c47_10l : List EO := [m 29 8,
 o 30 (.bin .sub) [t 29, i 365],
 m 8 30]
def c47_10 : EC := .rg c47_10l false
@[simp] theorem c47_10e : Rg c47_10 c47_10l false := rgE _ _
@[simp] def c47_11l : List EO := [m 31 6,
 o 32 (.call 70) [t 31]]
def c47_11 : EC := .rg c47_11l false
@[simp] theorem c47_11e : Rg c47_11 c47_11l false := rgE _ _
@[simp] def c47_12l : List EO := [m 33 8,
 o 34 (.bin .sub) [t 33, i 1],
 m 8 34]
def c47_12 : EC := .rg c47_12l false
@[simp] theorem c47_12e : Rg c47_12 c47_12l false := rgE _ _
def c47_13 : EC := .cd (t 32) c47_12 .skip
@[simp] theorem c47_13e : Cd c47_13 (t 32) c47_12 .skip := cdE _ _ _
def c47_14 : EC := .sq c47_11 c47_13
@[simp] theorem c47_14e : Sq c47_14 c47_11 c47_13 := sqE _ _
@[simp] def c47_15l : List EO := [m 35 6,
 o 36 (.bin .add) [t 35, i 1],
 m 6 36]
def c47_15 : EC := .rg c47_15l false
@[simp] theorem c47_15e : Rg c47_15 c47_15l false := rgE _ _
def c47_16 : EC := .sq c47_14 c47_15
@[simp] theorem c47_16e : Sq c47_16 c47_14 c47_15 := sqE _ _
def c47_17 : EC := .sq c47_10 c47_16
@[simp] theorem c47_17e : Sq c47_17 c47_10 c47_16 := sqE _ _
def c47_18 : EC := .bk 1 c47_17
@[simp] theorem c47_18e : Bk c47_18 1 c47_17 := bkE _ _
def c47_19 : EC := .sq c47_9 c47_18
@[simp] theorem c47_19e : Sq c47_19 c47_9 c47_18 := sqE _ _
def c47_20 : EC := .bk 0 (.lp c47_19)
@[simp] theorem c47_20e : Bk c47_20 0 (.lp c47_19) := bkE _ _
@[simp] def c47_21l : List EO := [m 37 8,
 m 38 6,
 m 39 7,
 o 40 (.call 48) [t 38, t 39],
 o 41 (.bin .geq) [t 37, t 40]]
def c47_21 : EC := .rg c47_21l false
@[simp] theorem c47_21e : Rg c47_21 c47_21l false := rgE _ _
def c47_22 : EC := .cd (t 41) .skip (.ex 2)
@[simp] theorem c47_22e : Cd c47_22 (t 41) .skip (.ex 2) := cdE _ _ _
def c47_23 : EC := .sq c47_21 c47_22
@[simp] theorem c47_23e : Sq c47_23 c47_21 c47_22 := sqE _ _
@[simp] def c47_24l : List EO := [m 42 8,
 m 43 6,
 m 44 7,
 o 45 (.call 48) [t 43, t 44],
 o 46 (.bin .sub) [t 42, t 45],
 m 8 46]
def c47_24 : EC := .rg c47_24l false
@[simp] theorem c47_24e : Rg c47_24 c47_24l false := rgE _ _
@[simp] def c47_25l : List EO := [m 47 7,
 o 48 (.bin .add) [t 47, i 1],
 m 7 48]
def c47_25 : EC := .rg c47_25l false
@[simp] theorem c47_25e : Rg c47_25 c47_25l false := rgE _ _
def c47_26 : EC := .sq c47_24 c47_25
@[simp] theorem c47_26e : Sq c47_26 c47_24 c47_25 := sqE _ _
def c47_27 : EC := .bk 3 c47_26
@[simp] theorem c47_27e : Bk c47_27 3 c47_26 := bkE _ _
def c47_28 : EC := .sq c47_23 c47_27
@[simp] theorem c47_28e : Sq c47_28 c47_23 c47_27 := sqE _ _
def c47_29 : EC := .bk 2 (.lp c47_28)
@[simp] theorem c47_29e : Bk c47_29 2 (.lp c47_28) := bkE _ _
@[simp] def c47_30l : List EO := [m 49 6,
 m 50 7,
 m 51 8,
 o 52 (.bin .add) [t 51, i 1],
 m 2 49,
 m 3 50,
 m 4 52,
 o 5 .mv [i 0]]
def c47_30 : EC := .rg c47_30l false
@[simp] theorem c47_30e : Rg c47_30 c47_30l false := rgE _ _
def c47_31 : EC := .sq c47_30 .rt
@[simp] theorem c47_31e : Sq c47_31 c47_30 .rt := sqE _ _
def c47_32 : EC := .sq c47_29 c47_31
@[simp] theorem c47_32e : Sq c47_32 c47_29 c47_31 := sqE _ _
def c47_33 : EC := .sq c47_20 c47_32
@[simp] theorem c47_33e : Sq c47_33 c47_20 c47_32 := sqE _ _
def c47_34 : EC := .sq c47_6 c47_33
@[simp] theorem c47_34e : Sq c47_34 c47_6 c47_33 := sqE _ _
def c47_35 : EC := .sq c47_5 c47_34
@[simp] theorem c47_35e : Sq c47_35 c47_5 c47_34 := sqE _ _
def c47_36 : EC := .sq c47_0 c47_35
@[simp] theorem c47_36e : Sq c47_36 c47_0 c47_35 := sqE _ _
def c_tallystoneref06_Civil_47 : EC := c47_36
theorem k_47 : ecF Try.prog 47 = some (53, c_tallystoneref06_Civil_47, [.tm 2, .tm 3, .tm 4, .tm 5]) := by kernel_rfl

/-- tallystone/tallystoneref06.Days -/
@[simp] def c48_0l : List EO := [o 4 .mv [i 0]]
def c48_0 : EC := .rg c48_0l false
@[simp] theorem c48_0e : Rg c48_0 c48_0l false := rgE _ _
@[simp] def c48_1l : List EO := [m 5 1,
 o 6 (.bin .lss) [t 5, i 1],
 m 7 6,
 n 8 7 .mv [t 1],
 n 9 7 (.bin .gtr) [t 8, i 12],
 o 10 .pick [t 7, b true, t 9],
 m 11 10,
 n 12 11 .mv [t 0],
 n 13 11 (.bin .lss) [t 12, i 1900],
 o 14 .pick [t 11, b true, t 13],
 m 15 14,
 n 16 15 .mv [t 0],
 n 17 15 (.bin .gtr) [t 16, i 2199],
 o 18 .pick [t 15, b true, t 17]]
def c48_1 : EC := .rg c48_1l false
@[simp] theorem c48_1e : Rg c48_1 c48_1l false := rgE _ _
@[simp] def c48_2l : List EO := [o 4 .mv [i 0]]
def c48_2 : EC := .rg c48_2l false
@[simp] theorem c48_2e : Rg c48_2 c48_2l false := rgE _ _
def c48_3 : EC := .sq c48_2 .rt
@[simp] theorem c48_3e : Sq c48_3 c48_2 .rt := sqE _ _
def c48_4 : EC := .cd (t 18) c48_3 .skip
@[simp] theorem c48_4e : Cd c48_4 (t 18) c48_3 .skip := cdE _ _ _
def c48_5 : EC := .sq c48_1 c48_4
@[simp] theorem c48_5e : Sq c48_5 c48_1 c48_4 := sqE _ _
@[simp] def c48_6l : List EO := [m 19 1,
 o 20 (.bin .eql) [t 19, i 2],
 m 21 20,
 y 22 21 .mv [t 0],
 y 23 21 (.call 70) [t 22],
 o 24 .pick [t 21, t 23, b false]]
def c48_6 : EC := .rg c48_6l false
@[simp] theorem c48_6e : Rg c48_6 c48_6l false := rgE _ _
@[simp] def c48_7l : List EO := [o 4 .mv [i 29]]
def c48_7 : EC := .rg c48_7l false
@[simp] theorem c48_7e : Rg c48_7 c48_7l false := rgE _ _
def c48_8 : EC := .sq c48_7 .rt
@[simp] theorem c48_8e : Sq c48_8 c48_7 .rt := sqE _ _
def c48_9 : EC := .cd (t 24) c48_8 .skip
@[simp] theorem c48_9e : Cd c48_9 (t 24) c48_8 .skip := cdE _ _ _
def c48_10 : EC := .sq c48_6 c48_9
@[simp] theorem c48_10e : Sq c48_10 c48_6 c48_9 := sqE _ _
@[simp] def c48_11l : List EO := [o 25 (.build [.t (.int .i64 0), .t (.int .i64 0), .t (.int .i64 0), .t (.int .i64 0), .t (.int .i64 0), .t (.int .i64 0), .t (.int .i64 0), .t (.int .i64 0), .t (.int .i64 0), .t (.int .i64 0), .t (.int .i64 0), .t (.int .i64 0)] [(0, 1), (1, 1), (2, 1), (3, 1), (4, 1), (5, 1), (6, 1), (7, 1), (8, 1), (9, 1), (10, 1), (11, 1)]) [i 31, i 28, i 31, i 30, i 31, i 30, i 31, i 31, i 30, i 31, i 30, i 31],
 m 26 1,
 o 27 (.bin .sub) [t 26, i 1],
 o 28 (.ixA 12 1 1 false) [t 25, t 27],
 m 4 28]
def c48_11 : EC := .rg c48_11l false
@[simp] theorem c48_11e : Rg c48_11 c48_11l false := rgE _ _
def c48_12 : EC := .sq c48_11 .rt
@[simp] theorem c48_12e : Sq c48_12 c48_11 .rt := sqE _ _
def c48_13 : EC := .sq c48_10 c48_12
@[simp] theorem c48_13e : Sq c48_13 c48_10 c48_12 := sqE _ _
def c48_14 : EC := .sq c48_5 c48_13
@[simp] theorem c48_14e : Sq c48_14 c48_5 c48_13 := sqE _ _
def c48_15 : EC := .sq c48_0 c48_14
@[simp] theorem c48_15e : Sq c48_15 c48_0 c48_14 := sqE _ _
def c_tallystoneref06_Days_48 : EC := c48_15
theorem k_48 : ecF Try.prog 48 = some (29, c_tallystoneref06_Days_48, [.tm 4]) := by kernel_rfl

/-- tallystone/note.All$1 -/
@[simp] def c49_0l : List EO := [o 2 .mv [b false]]
def c49_0 : EC := .rg c49_0l false
@[simp] theorem c49_0e : Rg c49_0 c49_0l false := rgE _ _
@[simp] def c49_1l : List EO := [m 3 0,
 o 4 (.bin .neq) [t 3, i 0],
 m 2 4]
def c49_1 : EC := .rg c49_1l false
@[simp] theorem c49_1e : Rg c49_1 c49_1l false := rgE _ _
def c49_2 : EC := .sq c49_1 .rt
@[simp] theorem c49_2e : Sq c49_2 c49_1 .rt := sqE _ _
def c49_3 : EC := .sq c49_0 c49_2
@[simp] theorem c49_3e : Sq c49_3 c49_0 c49_2 := sqE _ _
def c_note_AllS1_49 : EC := c49_3
theorem k_49 : ecF Try.prog 49 = some (5, c_note_AllS1_49, [.tm 2]) := by kernel_rfl

/-- tallystone/tallystoneref08.Find -/
@[simp] def c50_0l : List EO := [o 4 (.alloc [.t (.int .i64 0), .t (.int .i64 0), .t (.int .i64 0), .t (.int .i64 0)]) [],
 o 5 .mv [b false]]
def c50_0 : EC := .rg c50_0l false
@[simp] theorem c50_0e : Rg c50_0 c50_0l false := rgE _ _
@[simp] def c50_1l : List EO := [o 6 .mv [i 0]]
def c50_1 : EC := .rg c50_1l false
@[simp] theorem c50_1e : Rg c50_1 c50_1l false := rgE _ _
@[simp] def c50_2l : List EO := [m 7 6,
 m 8 0,
 o 9 .lenL [t 8],
 o 10 (.bin .lss) [t 7, t 9]]
def c50_2 : EC := .rg c50_2l false
@[simp] theorem c50_2e : Rg c50_2 c50_2l false := rgE _ _
def c50_3 : EC := .cd (t 10) .skip (.ex 0)
@[simp] theorem c50_3e : Cd c50_3 (t 10) .skip (.ex 0) := cdE _ _ _
def c50_4 : EC := .sq c50_2 c50_3
@[simp] theorem c50_4e : Sq c50_4 c50_2 c50_3 := sqE _ _
@[simp] def c50_5l : List EO := [m 13 0,
 m 14 6,
 o 15 (.iaS 4) [t 13, t 14],
 o 16 (.faddr 0) [t 15],
 o 17 (.load 1 false) [t 16],
 m 18 1,
 o 19 (.bin .eql) [t 17, t 18]]
def c50_5 : EC := .rg c50_5l false
@[simp] theorem c50_5e : Rg c50_5 c50_5l false := rgE _ _
@[simp] def c50_6l : List EO := [m 20 0,
 m 21 6,
 o 22 (.iaS 4) [t 20, t 21],
 o 23 (.load 4 true) [t 22],
 u (.store 4) [t 4, t 23],
 o 5 .mv [b true]]
def c50_6 : EC := .rg c50_6l false
@[simp] theorem c50_6e : Rg c50_6 c50_6l false := rgE _ _
def c50_7 : EC := .sq c50_6 .rt
@[simp] theorem c50_7e : Sq c50_7 c50_6 .rt := sqE _ _
def c50_8 : EC := .cd (t 19) c50_7 .skip
@[simp] theorem c50_8e : Cd c50_8 (t 19) c50_7 .skip := cdE _ _ _
def c50_9 : EC := .sq c50_5 c50_8
@[simp] theorem c50_9e : Sq c50_9 c50_5 c50_8 := sqE _ _
def c50_10 : EC := .bk 1 c50_9
@[simp] theorem c50_10e : Bk c50_10 1 c50_9 := bkE _ _
@[simp] def c50_11l : List EO := [m 11 6,
 o 12 (.bin .add) [t 11, i 1],
 m 6 12]
def c50_11 : EC := .rg c50_11l false
@[simp] theorem c50_11e : Rg c50_11 c50_11l false := rgE _ _
def c50_12 : EC := .sq c50_10 c50_11
@[simp] theorem c50_12e : Sq c50_12 c50_10 c50_11 := sqE _ _
def c50_13 : EC := .sq c50_4 c50_12
@[simp] theorem c50_13e : Sq c50_13 c50_4 c50_12 := sqE _ _
def c50_14 : EC := .bk 0 (.lp c50_13)
@[simp] theorem c50_14e : Bk c50_14 0 (.lp c50_13) := bkE _ _
def c50_15 : EC := .sq c50_1 c50_14
@[simp] theorem c50_15e : Sq c50_15 c50_1 c50_14 := sqE _ _
@[simp] def c50_16l : List EO := [o 24 (.build [.t (.int .i64 0), .t (.int .i64 0), .t (.int .i64 0), .t (.int .i64 0)] []) [],
 u (.store 4) [t 4, t 24],
 o 5 .mv [b false]]
def c50_16 : EC := .rg c50_16l false
@[simp] theorem c50_16e : Rg c50_16 c50_16l false := rgE _ _
def c50_17 : EC := .sq c50_16 .rt
@[simp] theorem c50_17e : Sq c50_17 c50_16 .rt := sqE _ _
def c50_18 : EC := .sq c50_15 c50_17
@[simp] theorem c50_18e : Sq c50_18 c50_15 c50_17 := sqE _ _
def c50_19 : EC := .sq c50_0 c50_18
@[simp] theorem c50_19e : Sq c50_19 c50_0 c50_18 := sqE _ _
def c_tallystoneref08_Find_50 : EC := c50_19
theorem k_50 : ecF Try.prog 50 = some (25, c_tallystoneref08_Find_50, [.ce 4 4 true, .tm 5]) := by kernel_rfl

/-- tallystone/group.sampleChart -/
@[simp] def c51_0l : List EO := [o 0 .mv [c (.snil)]]
def c51_0 : EC := .rg c51_0l false
@[simp] theorem c51_0e : Rg c51_0 c51_0l false := rgE _ _
@[simp] def c51_1l : List EO := [o 1 .mv [c (.snil)]]
def c51_1 : EC := .rg c51_1l false
@[simp] theorem c51_1e : Rg c51_1 c51_1l false := rgE _ _
@[simp] def c51_2l : List EO := [o 12 (.build [.t (.int .i64 0), .t (.int .i64 0)] [(0, 1), (1, 1)]) [i 1000, i 0],
 o 13 (.build [.t (.int .i64 0), .t (.int .i64 0)] [(0, 1), (1, 1)]) [i 1010, i 1000],
 o 14 (.build [.t (.int .i64 0), .t (.int .i64 0)] [(0, 1), (1, 1)]) [i 1100, i 1000],
 o 15 (.build [.t (.int .i64 0), .t (.int .i64 0)] [(0, 1), (1, 1)]) [i 1200, i 1000],
 o 16 (.bsl 2) [t 12, t 13, t 14, t 15],
 o 17 .lenL [t 16],
 o 18 .mv [i 0]]
def c51_2 : EC := .rg c51_2l false
@[simp] theorem c51_2e : Rg c51_2 c51_2l false := rgE _ _
@[simp] def c51_3l : List EO := [o 19 (.bin .lss) [t 18, t 17]]
def c51_3 : EC := .rg c51_3l false
@[simp] theorem c51_3e : Rg c51_3 c51_3l false := rgE _ _
def c51_4 : EC := .cd (t 19) .skip (.ex 0)
@[simp] theorem c51_4e : Cd c51_4 (t 19) .skip (.ex 0) := cdE _ _ _
@[simp] def c51_5l : List EO := [o 20 (.iaS 2) [t 16, t 18],
 o 21 (.load 2 true) [t 20],
 o 3 (.alloc [.t (.int .i64 0), .t (.int .i64 0)]) [],
 u (.store 2) [t 3, t 21]]
def c51_5 : EC := .rg c51_5l false
@[simp] theorem c51_5e : Rg c51_5 c51_5l false := rgE _ _
@[simp] def c51_6l : List EO := [m 22 1,
 o 23 (.iaA 2 1) [t 3, i 0],
 o 24 (.load 1 false) [t 23],
 o 25 (.iaA 2 1) [t 3, i 1],
 o 26 (.load 1 false) [t 25],
 o 27 (.call 71) [t 24, i 1, i 1, t 26],
 o 28 (.bsl 4) [t 27],
 o 29 (.app 78 4 32) [t 22, t 28],
 m 1 29]
def c51_6 : EC := .rg c51_6l false
@[simp] theorem c51_6e : Rg c51_6 c51_6l false := rgE _ _
def c51_7 : EC := .sq c51_5 c51_6
@[simp] theorem c51_7e : Sq c51_7 c51_5 c51_6 := sqE _ _
def c51_8 : EC := .bk 1 c51_7
@[simp] theorem c51_8e : Bk c51_8 1 c51_7 := bkE _ _
@[simp] def c51_9l : List EO := [o 30 (.bin .add) [t 18, i 1],
 m 18 30]
def c51_9 : EC := .rg c51_9l false
@[simp] theorem c51_9e : Rg c51_9 c51_9l false := rgE _ _
def c51_10 : EC := .sq c51_8 c51_9
@[simp] theorem c51_10e : Sq c51_10 c51_8 c51_9 := sqE _ _
def c51_11 : EC := .sq c51_4 c51_10
@[simp] theorem c51_11e : Sq c51_11 c51_4 c51_10 := sqE _ _
def c51_12 : EC := .sq c51_3 c51_11
@[simp] theorem c51_12e : Sq c51_12 c51_3 c51_11 := sqE _ _
def c51_13 : EC := .bk 0 (.lp c51_12)
@[simp] theorem c51_13e : Bk c51_13 0 (.lp c51_12) := bkE _ _
def c51_14 : EC := .sq c51_2 c51_13
@[simp] theorem c51_14e : Sq c51_14 c51_2 c51_13 := sqE _ _
@[simp] def c51_15l : List EO := [o 31 (.bsl 1) [i 1300, i 1500, i 1600, i 1700],
 o 32 .lenL [t 31],
 o 33 .mv [i 0]]
def c51_15 : EC := .rg c51_15l false
@[simp] theorem c51_15e : Rg c51_15 c51_15l false := rgE _ _
@[simp] def c51_16l : List EO := [o 34 (.bin .lss) [t 33, t 32]]
def c51_16 : EC := .rg c51_16l false
@[simp] theorem c51_16e : Rg c51_16 c51_16l false := rgE _ _
def c51_17 : EC := .cd (t 34) .skip (.ex 2)
@[simp] theorem c51_17e : Cd c51_17 (t 34) .skip (.ex 2) := cdE _ _ _
@[simp] def c51_18l : List EO := [o 35 (.iaS 1) [t 31, t 33],
 o 36 (.load 1 false) [t 35],
 m 5 36]
def c51_18 : EC := .rg c51_18l false
@[simp] theorem c51_18e : Rg c51_18 c51_18l false := rgE _ _
@[simp] def c51_19l : List EO := [m 37 1,
 m 38 5,
 o 39 (.call 71) [t 38, i 1, i 3, i 0],
 o 40 (.bsl 4) [t 39],
 o 41 (.app 78 4 32) [t 37, t 40],
 m 1 41]
def c51_19 : EC := .rg c51_19l false
@[simp] theorem c51_19e : Rg c51_19 c51_19l false := rgE _ _
def c51_20 : EC := .sq c51_18 c51_19
@[simp] theorem c51_20e : Sq c51_20 c51_18 c51_19 := sqE _ _
def c51_21 : EC := .bk 3 c51_20
@[simp] theorem c51_21e : Bk c51_21 3 c51_20 := bkE _ _
@[simp] def c51_22l : List EO := [o 42 (.bin .add) [t 33, i 1],
 m 33 42]
def c51_22 : EC := .rg c51_22l false
@[simp] theorem c51_22e : Rg c51_22 c51_22l false := rgE _ _
def c51_23 : EC := .sq c51_21 c51_22
@[simp] theorem c51_23e : Sq c51_23 c51_21 c51_22 := sqE _ _
def c51_24 : EC := .sq c51_17 c51_23
@[simp] theorem c51_24e : Sq c51_24 c51_17 c51_23 := sqE _ _
def c51_25 : EC := .sq c51_16 c51_24
@[simp] theorem c51_25e : Sq c51_25 c51_16 c51_24 := sqE _ _
def c51_26 : EC := .bk 2 (.lp c51_25)
@[simp] theorem c51_26e : Bk c51_26 2 (.lp c51_25) := bkE _ _
def c51_27 : EC := .sq c51_15 c51_26
@[simp] theorem c51_27e : Sq c51_27 c51_15 c51_26 := sqE _ _
@[simp] def c51_28l : List EO := [m 43 1,
 o 44 (.call 71) [i 2000, i 2, i 1, i 0],
 o 45 (.call 71) [i 2100, i 2, i 1, i 2000],
 o 46 (.bsl 4) [t 44, t 45],
 o 47 (.app 78 4 32) [t 43, t 46],
 m 1 47]
def c51_28 : EC := .rg c51_28l false
@[simp] theorem c51_28e : Rg c51_28 c51_28l false := rgE _ _
@[simp] def c51_29l : List EO := [o 48 (.bsl 1) [i 3000, i 3100, i 3200, i 3300, i 3400, i 3500],
 o 49 .lenL [t 48],
 o 50 .mv [i 0]]
def c51_29 : EC := .rg c51_29l false
@[simp] theorem c51_29e : Rg c51_29 c51_29l false := rgE _ _
@[simp] def c51_30l : List EO := [o 51 (.bin .lss) [t 50, t 49]]
def c51_30 : EC := .rg c51_30l false
@[simp] theorem c51_30e : Rg c51_30 c51_30l false := rgE _ _
def c51_31 : EC := .cd (t 51) .skip (.ex 4)
@[simp] theorem c51_31e : Cd c51_31 (t 51) .skip (.ex 4) := cdE _ _ _
@[simp] def c51_32l : List EO := [o 52 (.iaS 1) [t 48, t 50],
 o 53 (.load 1 false) [t 52],
 m 7 53]
def c51_32 : EC := .rg c51_32l false
@[simp] theorem c51_32e : Rg c51_32 c51_32l false := rgE _ _
@[simp] def c51_33l : List EO := [m 54 1,
 m 55 7,
 o 56 (.call 71) [t 55, i 3, i 3, i 0],
 o 57 (.bsl 4) [t 56],
 o 58 (.app 78 4 32) [t 54, t 57],
 m 1 58]
def c51_33 : EC := .rg c51_33l false
@[simp] theorem c51_33e : Rg c51_33 c51_33l false := rgE _ _
def c51_34 : EC := .sq c51_32 c51_33
@[simp] theorem c51_34e : Sq c51_34 c51_32 c51_33 := sqE _ _
def c51_35 : EC := .bk 5 c51_34
@[simp] theorem c51_35e : Bk c51_35 5 c51_34 := bkE _ _
@[simp] def c51_36l : List EO := [o 59 (.bin .add) [t 50, i 1],
 m 50 59]
def c51_36 : EC := .rg c51_36l false
@[simp] theorem c51_36e : Rg c51_36 c51_36l false := rgE _ _
def c51_37 : EC := .sq c51_35 c51_36
@[simp] theorem c51_37e : Sq c51_37 c51_35 c51_36 := sqE _ _
def c51_38 : EC := .sq c51_31 c51_37
@[simp] theorem c51_38e : Sq c51_38 c51_31 c51_37 := sqE _ _
def c51_39 : EC := .sq c51_30 c51_38
@[simp] theorem c51_39e : Sq c51_39 c51_30 c51_38 := sqE _ _
def c51_40 : EC := .bk 4 (.lp c51_39)
@[simp] theorem c51_40e : Bk c51_40 4 (.lp c51_39) := bkE _ _
def c51_41 : EC := .sq c51_29 c51_40
@[simp] theorem c51_41e : Sq c51_41 c51_29 c51_40 := sqE _ _
@[simp] def c51_42l : List EO := [o 60 (.build [.t (.int .i64 0), .t (.int .i64 0)] [(0, 1), (1, 1)]) [i 4000, i 0],
 o 61 (.build [.t (.int .i64 0), .t (.int .i64 0)] [(0, 1), (1, 1)]) [i 4100, i 4000],
 o 62 (.build [.t (.int .i64 0), .t (.int .i64 0)] [(0, 1), (1, 1)]) [i 4500, i 0],
 o 63 (.build [.t (.int .i64 0), .t (.int .i64 0)] [(0, 1), (1, 1)]) [i 4600, i 0],
 o 64 (.build [.t (.int .i64 0), .t (.int .i64 0)] [(0, 1), (1, 1)]) [i 4700, i 0],
 o 65 (.bsl 2) [t 60, t 61, t 62, t 63, t 64],
 o 66 .lenL [t 65],
 o 67 .mv [i 0]]
def c51_42 : EC := .rg c51_42l false
@[simp] theorem c51_42e : Rg c51_42 c51_42l false := rgE _ _
@[simp] def c51_43l : List EO := [o 68 (.bin .lss) [t 67, t 66]]
def c51_43 : EC := .rg c51_43l false
@[simp] theorem c51_43e : Rg c51_43 c51_43l false := rgE _ _
def c51_44 : EC := .cd (t 68) .skip (.ex 6)
@[simp] theorem c51_44e : Cd c51_44 (t 68) .skip (.ex 6) := cdE _ _ _
@[simp] def c51_45l : List EO := [o 69 (.iaS 2) [t 65, t 67],
 o 70 (.load 2 true) [t 69],
 o 9 (.alloc [.t (.int .i64 0), .t (.int .i64 0)]) [],
 u (.store 2) [t 9, t 70]]
def c51_45 : EC := .rg c51_45l false
@[simp] theorem c51_45e : Rg c51_45 c51_45l false := rgE _ _
@[simp] def c51_46l : List EO := [m 71 1,
 o 72 (.iaA 2 1) [t 9, i 0],
 o 73 (.load 1 false) [t 72],
 o 74 (.iaA 2 1) [t 9, i 1],
 o 75 (.load 1 false) [t 74],
 o 76 (.call 71) [t 73, i 4, i 2, t 75],
 o 77 (.bsl 4) [t 76],
 o 78 (.app 78 4 32) [t 71, t 77],
 m 1 78]
def c51_46 : EC := .rg c51_46l false
@[simp] theorem c51_46e : Rg c51_46 c51_46l false := rgE _ _
def c51_47 : EC := .sq c51_45 c51_46
@[simp] theorem c51_47e : Sq c51_47 c51_45 c51_46 := sqE _ _
def c51_48 : EC := .bk 7 c51_47
@[simp] theorem c51_48e : Bk c51_48 7 c51_47 := bkE _ _
@[simp] def c51_49l : List EO := [o 79 (.bin .add) [t 67, i 1],
 m 67 79]
def c51_49 : EC := .rg c51_49l false
@[simp] theorem c51_49e : Rg c51_49 c51_49l false := rgE _ _
def c51_50 : EC := .sq c51_48 c51_49
@[simp] theorem c51_50e : Sq c51_50 c51_48 c51_49 := sqE _ _
def c51_51 : EC := .sq c51_44 c51_50
@[simp] theorem c51_51e : Sq c51_51 c51_44 c51_50 := sqE _ _
def c51_52 : EC := .sq c51_43 c51_51
@[simp] theorem c51_52e : Sq c51_52 c51_43 c51_51 := sqE _ _
def c51_53 : EC := .bk 6 (.lp c51_52)
@[simp] theorem c51_53e : Bk c51_53 6 (.lp c51_52) := bkE _ _
def c51_54 : EC := .sq c51_42 c51_53
@[simp] theorem c51_54e : Sq c51_54 c51_42 c51_53 := sqE _ _
@[simp] def c51_55l : List EO := [o 80 (.bsl 1) [i 5000, i 5100, i 5500, i 5600, i 5700],
 o 81 .lenL [t 80],
 o 82 .mv [i 0]]
def c51_55 : EC := .rg c51_55l false
@[simp] theorem c51_55e : Rg c51_55 c51_55l false := rgE _ _
@[simp] def c51_56l : List EO := [o 83 (.bin .lss) [t 82, t 81]]
def c51_56 : EC := .rg c51_56l false
@[simp] theorem c51_56e : Rg c51_56 c51_56l false := rgE _ _
def c51_57 : EC := .cd (t 83) .skip (.ex 8)
@[simp] theorem c51_57e : Cd c51_57 (t 83) .skip (.ex 8) := cdE _ _ _
@[simp] def c51_58l : List EO := [o 84 (.iaS 1) [t 80, t 82],
 o 85 (.load 1 false) [t 84],
 m 11 85]
def c51_58 : EC := .rg c51_58l false
@[simp] theorem c51_58e : Rg c51_58 c51_58l false := rgE _ _
@[simp] def c51_59l : List EO := [m 86 1,
 m 87 11,
 o 88 (.call 71) [t 87, i 5, i 2, i 0],
 o 89 (.bsl 4) [t 88],
 o 90 (.app 78 4 32) [t 86, t 89],
 m 1 90]
def c51_59 : EC := .rg c51_59l false
@[simp] theorem c51_59e : Rg c51_59 c51_59l false := rgE _ _
def c51_60 : EC := .sq c51_58 c51_59
@[simp] theorem c51_60e : Sq c51_60 c51_58 c51_59 := sqE _ _
def c51_61 : EC := .bk 9 c51_60
@[simp] theorem c51_61e : Bk c51_61 9 c51_60 := bkE _ _
@[simp] def c51_62l : List EO := [o 91 (.bin .add) [t 82, i 1],
 m 82 91]
def c51_62 : EC := .rg c51_62l false
@[simp] theorem c51_62e : Rg c51_62 c51_62l false := rgE _ _
def c51_63 : EC := .sq c51_61 c51_62
@[simp] theorem c51_63e : Sq c51_63 c51_61 c51_62 := sqE _ _
def c51_64 : EC := .sq c51_57 c51_63
@[simp] theorem c51_64e : Sq c51_64 c51_57 c51_63 := sqE _ _
def c51_65 : EC := .sq c51_56 c51_64
@[simp] theorem c51_65e : Sq c51_65 c51_56 c51_64 := sqE _ _
def c51_66 : EC := .bk 8 (.lp c51_65)
@[simp] theorem c51_66e : Bk c51_66 8 (.lp c51_65) := bkE _ _
def c51_67 : EC := .sq c51_55 c51_66
@[simp] theorem c51_67e : Sq c51_67 c51_55 c51_66 := sqE _ _
@[simp] def c51_68l : List EO := [m 92 1,
 m 0 92]
def c51_68 : EC := .rg c51_68l false
@[simp] theorem c51_68e : Rg c51_68 c51_68l false := rgE _ _
def c51_69 : EC := .sq c51_68 .rt
@[simp] theorem c51_69e : Sq c51_69 c51_68 .rt := sqE _ _
def c51_70 : EC := .sq c51_67 c51_69
@[simp] theorem c51_70e : Sq c51_70 c51_67 c51_69 := sqE _ _
def c51_71 : EC := .sq c51_54 c51_70
@[simp] theorem c51_71e : Sq c51_71 c51_54 c51_70 := sqE _ _
def c51_72 : EC := .sq c51_41 c51_71
@[simp] theorem c51_72e : Sq c51_72 c51_41 c51_71 := sqE _ _
def c51_73 : EC := .sq c51_28 c51_72
@[simp] theorem c51_73e : Sq c51_73 c51_28 c51_72 := sqE _ _
def c51_74 : EC := .sq c51_27 c51_73
@[simp] theorem c51_74e : Sq c51_74 c51_27 c51_73 := sqE _ _
def c51_75 : EC := .sq c51_14 c51_74
@[simp] theorem c51_75e : Sq c51_75 c51_14 c51_74 := sqE _ _
def c51_76 : EC := .sq c51_1 c51_75
@[simp] theorem c51_76e : Sq c51_76 c51_1 c51_75 := sqE _ _
def c51_77 : EC := .sq c51_0 c51_76
@[simp] theorem c51_77e : Sq c51_77 c51_0 c51_76 := sqE _ _
def c_group_sampleChart_51 : EC := c51_77
theorem k_51 : ecF Try.prog 51 = some (93, c_group_sampleChart_51, [.tm 0]) := by kernel_rfl

/-- tallystone/group.sampleChart, with slices that grow in boxes -/
@[simp] def b51_0l : List EO := [o 0 .mv [c (.snil)]]
def b51_0 : EC := .rg b51_0l false
@[simp] theorem b51_0e : Rg b51_0 b51_0l false := rgE _ _
@[simp] def b51_1l : List EO := [o 1 .mv [c (.snil)]]
def b51_1 : EC := .rg b51_1l false
@[simp] theorem b51_1e : Rg b51_1 b51_1l false := rgE _ _
@[simp] def b51_2l : List EO := [o 12 (.build [.t (.int .i64 0), .t (.int .i64 0)] [(0, 1), (1, 1)]) [i 1000, i 0],
 o 13 (.build [.t (.int .i64 0), .t (.int .i64 0)] [(0, 1), (1, 1)]) [i 1010, i 1000],
 o 14 (.build [.t (.int .i64 0), .t (.int .i64 0)] [(0, 1), (1, 1)]) [i 1100, i 1000],
 o 15 (.build [.t (.int .i64 0), .t (.int .i64 0)] [(0, 1), (1, 1)]) [i 1200, i 1000],
 o 16 (.bsl 2) [t 12, t 13, t 14, t 15],
 o 17 .lenL [t 16],
 o 18 .mv [i 0]]
def b51_2 : EC := .rg b51_2l false
@[simp] theorem b51_2e : Rg b51_2 b51_2l false := rgE _ _
@[simp] def b51_3l : List EO := [o 19 (.bin .lss) [t 18, t 17]]
def b51_3 : EC := .rg b51_3l false
@[simp] theorem b51_3e : Rg b51_3 b51_3l false := rgE _ _
def b51_4 : EC := .cd (t 19) .skip (.ex 0)
@[simp] theorem b51_4e : Cd b51_4 (t 19) .skip (.ex 0) := cdE _ _ _
@[simp] def b51_5l : List EO := [o 20 (.iaS 2) [t 16, t 18],
 o 21 (.load 2 true) [t 20],
 o 3 (.alloc [.t (.int .i64 0), .t (.int .i64 0)]) [],
 u (.store 2) [t 3, t 21]]
def b51_5 : EC := .rg b51_5l false
@[simp] theorem b51_5e : Rg b51_5 b51_5l false := rgE _ _
@[simp] def b51_6l : List EO := [m 22 1,
 o 23 (.iaA 2 1) [t 3, i 0],
 o 24 (.load 1 false) [t 23],
 o 25 (.iaA 2 1) [t 3, i 1],
 o 26 (.load 1 false) [t 25],
 o 27 (.call 71) [t 24, i 1, i 1, t 26],
 o 28 (.bsl 4) [t 27],
 o 29 (.appB 78 4 32) [t 22, t 28],
 m 1 29]
def b51_6 : EC := .rg b51_6l false
@[simp] theorem b51_6e : Rg b51_6 b51_6l false := rgE _ _
def b51_7 : EC := .sq b51_5 b51_6
@[simp] theorem b51_7e : Sq b51_7 b51_5 b51_6 := sqE _ _
def b51_8 : EC := .bk 1 b51_7
@[simp] theorem b51_8e : Bk b51_8 1 b51_7 := bkE _ _
@[simp] def b51_9l : List EO := [o 30 (.bin .add) [t 18, i 1],
 m 18 30]
def b51_9 : EC := .rg b51_9l false
@[simp] theorem b51_9e : Rg b51_9 b51_9l false := rgE _ _
def b51_10 : EC := .sq b51_8 b51_9
@[simp] theorem b51_10e : Sq b51_10 b51_8 b51_9 := sqE _ _
def b51_11 : EC := .sq b51_4 b51_10
@[simp] theorem b51_11e : Sq b51_11 b51_4 b51_10 := sqE _ _
def b51_12 : EC := .sq b51_3 b51_11
@[simp] theorem b51_12e : Sq b51_12 b51_3 b51_11 := sqE _ _
def b51_13 : EC := .bk 0 (.lp b51_12)
@[simp] theorem b51_13e : Bk b51_13 0 (.lp b51_12) := bkE _ _
def b51_14 : EC := .sq b51_2 b51_13
@[simp] theorem b51_14e : Sq b51_14 b51_2 b51_13 := sqE _ _
@[simp] def b51_15l : List EO := [o 31 (.bsl 1) [i 1300, i 1500, i 1600, i 1700],
 o 32 .lenL [t 31],
 o 33 .mv [i 0]]
def b51_15 : EC := .rg b51_15l false
@[simp] theorem b51_15e : Rg b51_15 b51_15l false := rgE _ _
@[simp] def b51_16l : List EO := [o 34 (.bin .lss) [t 33, t 32]]
def b51_16 : EC := .rg b51_16l false
@[simp] theorem b51_16e : Rg b51_16 b51_16l false := rgE _ _
def b51_17 : EC := .cd (t 34) .skip (.ex 2)
@[simp] theorem b51_17e : Cd b51_17 (t 34) .skip (.ex 2) := cdE _ _ _
@[simp] def b51_18l : List EO := [o 35 (.iaS 1) [t 31, t 33],
 o 36 (.load 1 false) [t 35],
 m 5 36]
def b51_18 : EC := .rg b51_18l false
@[simp] theorem b51_18e : Rg b51_18 b51_18l false := rgE _ _
@[simp] def b51_19l : List EO := [m 37 1,
 m 38 5,
 o 39 (.call 71) [t 38, i 1, i 3, i 0],
 o 40 (.bsl 4) [t 39],
 o 41 (.appB 78 4 32) [t 37, t 40],
 m 1 41]
def b51_19 : EC := .rg b51_19l false
@[simp] theorem b51_19e : Rg b51_19 b51_19l false := rgE _ _
def b51_20 : EC := .sq b51_18 b51_19
@[simp] theorem b51_20e : Sq b51_20 b51_18 b51_19 := sqE _ _
def b51_21 : EC := .bk 3 b51_20
@[simp] theorem b51_21e : Bk b51_21 3 b51_20 := bkE _ _
@[simp] def b51_22l : List EO := [o 42 (.bin .add) [t 33, i 1],
 m 33 42]
def b51_22 : EC := .rg b51_22l false
@[simp] theorem b51_22e : Rg b51_22 b51_22l false := rgE _ _
def b51_23 : EC := .sq b51_21 b51_22
@[simp] theorem b51_23e : Sq b51_23 b51_21 b51_22 := sqE _ _
def b51_24 : EC := .sq b51_17 b51_23
@[simp] theorem b51_24e : Sq b51_24 b51_17 b51_23 := sqE _ _
def b51_25 : EC := .sq b51_16 b51_24
@[simp] theorem b51_25e : Sq b51_25 b51_16 b51_24 := sqE _ _
def b51_26 : EC := .bk 2 (.lp b51_25)
@[simp] theorem b51_26e : Bk b51_26 2 (.lp b51_25) := bkE _ _
def b51_27 : EC := .sq b51_15 b51_26
@[simp] theorem b51_27e : Sq b51_27 b51_15 b51_26 := sqE _ _
@[simp] def b51_28l : List EO := [m 43 1,
 o 44 (.call 71) [i 2000, i 2, i 1, i 0],
 o 45 (.call 71) [i 2100, i 2, i 1, i 2000],
 o 46 (.bsl 4) [t 44, t 45],
 o 47 (.appB 78 4 32) [t 43, t 46],
 m 1 47]
def b51_28 : EC := .rg b51_28l false
@[simp] theorem b51_28e : Rg b51_28 b51_28l false := rgE _ _
@[simp] def b51_29l : List EO := [o 48 (.bsl 1) [i 3000, i 3100, i 3200, i 3300, i 3400, i 3500],
 o 49 .lenL [t 48],
 o 50 .mv [i 0]]
def b51_29 : EC := .rg b51_29l false
@[simp] theorem b51_29e : Rg b51_29 b51_29l false := rgE _ _
@[simp] def b51_30l : List EO := [o 51 (.bin .lss) [t 50, t 49]]
def b51_30 : EC := .rg b51_30l false
@[simp] theorem b51_30e : Rg b51_30 b51_30l false := rgE _ _
def b51_31 : EC := .cd (t 51) .skip (.ex 4)
@[simp] theorem b51_31e : Cd b51_31 (t 51) .skip (.ex 4) := cdE _ _ _
@[simp] def b51_32l : List EO := [o 52 (.iaS 1) [t 48, t 50],
 o 53 (.load 1 false) [t 52],
 m 7 53]
def b51_32 : EC := .rg b51_32l false
@[simp] theorem b51_32e : Rg b51_32 b51_32l false := rgE _ _
@[simp] def b51_33l : List EO := [m 54 1,
 m 55 7,
 o 56 (.call 71) [t 55, i 3, i 3, i 0],
 o 57 (.bsl 4) [t 56],
 o 58 (.appB 78 4 32) [t 54, t 57],
 m 1 58]
def b51_33 : EC := .rg b51_33l false
@[simp] theorem b51_33e : Rg b51_33 b51_33l false := rgE _ _
def b51_34 : EC := .sq b51_32 b51_33
@[simp] theorem b51_34e : Sq b51_34 b51_32 b51_33 := sqE _ _
def b51_35 : EC := .bk 5 b51_34
@[simp] theorem b51_35e : Bk b51_35 5 b51_34 := bkE _ _
@[simp] def b51_36l : List EO := [o 59 (.bin .add) [t 50, i 1],
 m 50 59]
def b51_36 : EC := .rg b51_36l false
@[simp] theorem b51_36e : Rg b51_36 b51_36l false := rgE _ _
def b51_37 : EC := .sq b51_35 b51_36
@[simp] theorem b51_37e : Sq b51_37 b51_35 b51_36 := sqE _ _
def b51_38 : EC := .sq b51_31 b51_37
@[simp] theorem b51_38e : Sq b51_38 b51_31 b51_37 := sqE _ _
def b51_39 : EC := .sq b51_30 b51_38
@[simp] theorem b51_39e : Sq b51_39 b51_30 b51_38 := sqE _ _
def b51_40 : EC := .bk 4 (.lp b51_39)
@[simp] theorem b51_40e : Bk b51_40 4 (.lp b51_39) := bkE _ _
def b51_41 : EC := .sq b51_29 b51_40
@[simp] theorem b51_41e : Sq b51_41 b51_29 b51_40 := sqE _ _
@[simp] def b51_42l : List EO := [o 60 (.build [.t (.int .i64 0), .t (.int .i64 0)] [(0, 1), (1, 1)]) [i 4000, i 0],
 o 61 (.build [.t (.int .i64 0), .t (.int .i64 0)] [(0, 1), (1, 1)]) [i 4100, i 4000],
 o 62 (.build [.t (.int .i64 0), .t (.int .i64 0)] [(0, 1), (1, 1)]) [i 4500, i 0],
 o 63 (.build [.t (.int .i64 0), .t (.int .i64 0)] [(0, 1), (1, 1)]) [i 4600, i 0],
 o 64 (.build [.t (.int .i64 0), .t (.int .i64 0)] [(0, 1), (1, 1)]) [i 4700, i 0],
 o 65 (.bsl 2) [t 60, t 61, t 62, t 63, t 64],
 o 66 .lenL [t 65],
 o 67 .mv [i 0]]
def b51_42 : EC := .rg b51_42l false
@[simp] theorem b51_42e : Rg b51_42 b51_42l false := rgE _ _
@[simp] def b51_43l : List EO := [o 68 (.bin .lss) [t 67, t 66]]
def b51_43 : EC := .rg b51_43l false
@[simp] theorem b51_43e : Rg b51_43 b51_43l false := rgE _ _
def b51_44 : EC := .cd (t 68) .skip (.ex 6)
@[simp] theorem b51_44e : Cd b51_44 (t 68) .skip (.ex 6) := cdE _ _ _
@[simp] def b51_45l : List EO := [o 69 (.iaS 2) [t 65, t 67],
 o 70 (.load 2 true) [t 69],
 o 9 (.alloc [.t (.int .i64 0), .t (.int .i64 0)]) [],
 u (.store 2) [t 9, t 70]]
def b51_45 : EC := .rg b51_45l false
@[simp] theorem b51_45e : Rg b51_45 b51_45l false := rgE _ _
@[simp] def b51_46l : List EO := [m 71 1,
 o 72 (.iaA 2 1) [t 9, i 0],
 o 73 (.load 1 false) [t 72],
 o 74 (.iaA 2 1) [t 9, i 1],
 o 75 (.load 1 false) [t 74],
 o 76 (.call 71) [t 73, i 4, i 2, t 75],
 o 77 (.bsl 4) [t 76],
 o 78 (.appB 78 4 32) [t 71, t 77],
 m 1 78]
def b51_46 : EC := .rg b51_46l false
@[simp] theorem b51_46e : Rg b51_46 b51_46l false := rgE _ _
def b51_47 : EC := .sq b51_45 b51_46
@[simp] theorem b51_47e : Sq b51_47 b51_45 b51_46 := sqE _ _
def b51_48 : EC := .bk 7 b51_47
@[simp] theorem b51_48e : Bk b51_48 7 b51_47 := bkE _ _
@[simp] def b51_49l : List EO := [o 79 (.bin .add) [t 67, i 1],
 m 67 79]
def b51_49 : EC := .rg b51_49l false
@[simp] theorem b51_49e : Rg b51_49 b51_49l false := rgE _ _
def b51_50 : EC := .sq b51_48 b51_49
@[simp] theorem b51_50e : Sq b51_50 b51_48 b51_49 := sqE _ _
def b51_51 : EC := .sq b51_44 b51_50
@[simp] theorem b51_51e : Sq b51_51 b51_44 b51_50 := sqE _ _
def b51_52 : EC := .sq b51_43 b51_51
@[simp] theorem b51_52e : Sq b51_52 b51_43 b51_51 := sqE _ _
def b51_53 : EC := .bk 6 (.lp b51_52)
@[simp] theorem b51_53e : Bk b51_53 6 (.lp b51_52) := bkE _ _
def b51_54 : EC := .sq b51_42 b51_53
@[simp] theorem b51_54e : Sq b51_54 b51_42 b51_53 := sqE _ _
@[simp] def b51_55l : List EO := [o 80 (.bsl 1) [i 5000, i 5100, i 5500, i 5600, i 5700],
 o 81 .lenL [t 80],
 o 82 .mv [i 0]]
def b51_55 : EC := .rg b51_55l false
@[simp] theorem b51_55e : Rg b51_55 b51_55l false := rgE _ _
@[simp] def b51_56l : List EO := [o 83 (.bin .lss) [t 82, t 81]]
def b51_56 : EC := .rg b51_56l false
@[simp] theorem b51_56e : Rg b51_56 b51_56l false := rgE _ _
def b51_57 : EC := .cd (t 83) .skip (.ex 8)
@[simp] theorem b51_57e : Cd b51_57 (t 83) .skip (.ex 8) := cdE _ _ _
@[simp] def b51_58l : List EO := [o 84 (.iaS 1) [t 80, t 82],
 o 85 (.load 1 false) [t 84],
 m 11 85]
def b51_58 : EC := .rg b51_58l false
@[simp] theorem b51_58e : Rg b51_58 b51_58l false := rgE _ _
@[simp] def b51_59l : List EO := [m 86 1,
 m 87 11,
 o 88 (.call 71) [t 87, i 5, i 2, i 0],
 o 89 (.bsl 4) [t 88],
 o 90 (.appB 78 4 32) [t 86, t 89],
 m 1 90]
def b51_59 : EC := .rg b51_59l false
@[simp] theorem b51_59e : Rg b51_59 b51_59l false := rgE _ _
def b51_60 : EC := .sq b51_58 b51_59
@[simp] theorem b51_60e : Sq b51_60 b51_58 b51_59 := sqE _ _
def b51_61 : EC := .bk 9 b51_60
@[simp] theorem b51_61e : Bk b51_61 9 b51_60 := bkE _ _
@[simp] def b51_62l : List EO := [o 91 (.bin .add) [t 82, i 1],
 m 82 91]
def b51_62 : EC := .rg b51_62l false
@[simp] theorem b51_62e : Rg b51_62 b51_62l false := rgE _ _
def b51_63 : EC := .sq b51_61 b51_62
@[simp] theorem b51_63e : Sq b51_63 b51_61 b51_62 := sqE _ _
def b51_64 : EC := .sq b51_57 b51_63
@[simp] theorem b51_64e : Sq b51_64 b51_57 b51_63 := sqE _ _
def b51_65 : EC := .sq b51_56 b51_64
@[simp] theorem b51_65e : Sq b51_65 b51_56 b51_64 := sqE _ _
def b51_66 : EC := .bk 8 (.lp b51_65)
@[simp] theorem b51_66e : Bk b51_66 8 (.lp b51_65) := bkE _ _
def b51_67 : EC := .sq b51_55 b51_66
@[simp] theorem b51_67e : Sq b51_67 b51_55 b51_66 := sqE _ _
@[simp] def b51_68l : List EO := [m 92 1,
 m 0 92]
def b51_68 : EC := .rg b51_68l false
@[simp] theorem b51_68e : Rg b51_68 b51_68l false := rgE _ _
def b51_69 : EC := .sq b51_68 .rt
@[simp] theorem b51_69e : Sq b51_69 b51_68 .rt := sqE _ _
def b51_70 : EC := .sq b51_67 b51_69
@[simp] theorem b51_70e : Sq b51_70 b51_67 b51_69 := sqE _ _
def b51_71 : EC := .sq b51_54 b51_70
@[simp] theorem b51_71e : Sq b51_71 b51_54 b51_70 := sqE _ _
def b51_72 : EC := .sq b51_41 b51_71
@[simp] theorem b51_72e : Sq b51_72 b51_41 b51_71 := sqE _ _
def b51_73 : EC := .sq b51_28 b51_72
@[simp] theorem b51_73e : Sq b51_73 b51_28 b51_72 := sqE _ _
def b51_74 : EC := .sq b51_27 b51_73
@[simp] theorem b51_74e : Sq b51_74 b51_27 b51_73 := sqE _ _
def b51_75 : EC := .sq b51_14 b51_74
@[simp] theorem b51_75e : Sq b51_75 b51_14 b51_74 := sqE _ _
def b51_76 : EC := .sq b51_1 b51_75
@[simp] theorem b51_76e : Sq b51_76 b51_1 b51_75 := sqE _ _
def b51_77 : EC := .sq b51_0 b51_76
@[simp] theorem b51_77e : Sq b51_77 b51_0 b51_76 := sqE _ _
def b_group_sampleChart_51 : EC := b51_77
theorem kb_51 : ecB Try.prog 51 = some (93, b_group_sampleChart_51, [.tm 0]) := by kernel_rfl

/-- tallystone/group.sampleEntity -/
@[simp] def c52_0l : List EO := [o 6 (.alloc [.t (.str []), .t (.str []), .snil, .snil, .t (.bool false)]) []]
def c52_0 : EC := .rg c52_0l false
@[simp] theorem c52_0e : Rg c52_0 c52_0l false := rgE _ _
@[simp] def c52_1l : List EO := [m 13 0,
 m 14 1,
 m 15 2,
 o 16 (.build [.t (.str []), .t (.str []), .snil, .snil, .t (.bool false)] [(0, 1), (1, 1), (4, 1)]) [t 13, t 14, t 15],
 o 7 (.alloc [.t (.str []), .t (.str []), .snil, .snil, .t (.bool false)]) [],
 u (.store 5) [t 7, t 16]]
def c52_1 : EC := .rg c52_1l false
@[simp] theorem c52_1e : Rg c52_1 c52_1l false := rgE _ _
@[simp] def c52_2l : List EO := [o 17 (.bsl 1) [i 1, i 1, i 1, i 1, i 1, i 2, i 2, i 3, i 3, i 4, i 4, i 4, i 5, i 5],
 m 8 17]
def c52_2 : EC := .rg c52_2l false
@[simp] theorem c52_2e : Rg c52_2 c52_2l false := rgE _ _
@[simp] def c52_3l : List EO := [o 18 (.bsl 1) [i 1010, i 1100, i 1200, i 1300, i 1500, i 2000, i 2100, i 3000, i 3300, i 4000, i 4100, i 4700, i 5000, i 5100],
 m 9 18]
def c52_3 : EC := .rg c52_3l false
@[simp] theorem c52_3e : Rg c52_3 c52_3l false := rgE _ _
@[simp] def c52_4l : List EO := [m 19 8,
 o 20 .lenL [t 19],
 o 21 .mv [i 0]]
def c52_4 : EC := .rg c52_4l false
@[simp] theorem c52_4e : Rg c52_4 c52_4l false := rgE _ _
@[simp] def c52_5l : List EO := [o 22 (.bin .lss) [t 21, t 20]]
def c52_5 : EC := .rg c52_5l false
@[simp] theorem c52_5e : Rg c52_5 c52_5l false := rgE _ _
def c52_6 : EC := .cd (t 22) .skip (.ex 0)
@[simp] theorem c52_6e : Cd c52_6 (t 22) .skip (.ex 0) := cdE _ _ _
@[simp] def c52_7l : List EO := [m 23 21,
 o 24 (.iaS 1) [t 19, t 21],
 o 25 (.load 1 false) [t 24],
 m 10 23,
 m 11 25]
def c52_7 : EC := .rg c52_7l false
@[simp] theorem c52_7e : Rg c52_7 c52_7l false := rgE _ _
@[simp] def c52_8l : List EO := [m 26 10,
 o 27 (.bin .add) [t 26, i 1],
 o 28 (.bin .mul) [i 10, t 27],
 m 12 28]
def c52_8 : EC := .rg c52_8l false
@[simp] theorem c52_8e : Rg c52_8 c52_8l false := rgE _ _
@[simp] def c52_9l : List EO := [o 29 (.faddr 2) [t 7],
 o 30 (.load 1 false) [t 29],
 m 31 12,
 m 32 11,
 o 33 (.build [.t (.int .i64 0), .t (.int .i64 0), .t (.int .i64 0), .t (.int .i64 0)] [(0, 1), (1, 1)]) [t 31, t 32],
 o 34 (.bsl 4) [t 33],
 o 35 (.app 78 4 32) [t 30, t 34],
 o 36 (.faddr 2) [t 7],
 u (.store 1) [t 36, t 35]]
def c52_9 : EC := .rg c52_9l false
@[simp] theorem c52_9e : Rg c52_9 c52_9l false := rgE _ _
@[simp] def c52_10l : List EO := [o 37 (.faddr 3) [t 7],
 o 38 (.load 1 false) [t 37],
 m 39 12,
 m 40 9,
 m 41 10,
 o 42 (.iaS 1) [t 40, t 41],
 o 43 (.load 1 false) [t 42],
 o 44 (.build [.t (.int .i64 0), .t (.int .i64 0), .t (.int .i64 0)] [(0, 1), (1, 1), (2, 1)]) [t 39, t 43, i (-25567)],
 o 45 (.bsl 3) [t 44],
 o 46 (.app 124 3 24) [t 38, t 45],
 o 47 (.faddr 3) [t 7],
 u (.store 1) [t 47, t 46]]
def c52_10 : EC := .rg c52_10l true
@[simp] theorem c52_10e : Rg c52_10 c52_10l true := rgE _ _
def c52_11 : EC := .sq c52_9 c52_10
@[simp] theorem c52_11e : Sq c52_11 c52_9 c52_10 := sqE _ _
def c52_12 : EC := .sq c52_8 c52_11
@[simp] theorem c52_12e : Sq c52_12 c52_8 c52_11 := sqE _ _
def c52_13 : EC := .sq c52_7 c52_12
@[simp] theorem c52_13e : Sq c52_13 c52_7 c52_12 := sqE _ _
def c52_14 : EC := .bk 1 c52_13
@[simp] theorem c52_14e : Bk c52_14 1 c52_13 := bkE _ _
@[simp] def c52_15l : List EO := [o 48 (.bin .add) [t 21, i 1],
 m 21 48]
def c52_15 : EC := .rg c52_15l false
@[simp] theorem c52_15e : Rg c52_15 c52_15l false := rgE _ _
def c52_16 : EC := .sq c52_14 c52_15
@[simp] theorem c52_16e : Sq c52_16 c52_14 c52_15 := sqE _ _
def c52_17 : EC := .sq c52_6 c52_16
@[simp] theorem c52_17e : Sq c52_17 c52_6 c52_16 := sqE _ _
def c52_18 : EC := .sq c52_5 c52_17
@[simp] theorem c52_18e : Sq c52_18 c52_5 c52_17 := sqE _ _
def c52_19 : EC := .bk 0 (.lp c52_18)
@[simp] theorem c52_19e : Bk c52_19 0 (.lp c52_18) := bkE _ _
def c52_20 : EC := .sq c52_4 c52_19
@[simp] theorem c52_20e : Sq c52_20 c52_4 c52_19 := sqE _ _
@[simp] def c52_21l : List EO := [o 49 (.load 5 true) [t 7],
 u (.store 5) [t 6, t 49]]
def c52_21 : EC := .rg c52_21l false
@[simp] theorem c52_21e : Rg c52_21 c52_21l false := rgE _ _
def c52_22 : EC := .sq c52_21 .rt
@[simp] theorem c52_22e : Sq c52_22 c52_21 .rt := sqE _ _
def c52_23 : EC := .sq c52_20 c52_22
@[simp] theorem c52_23e : Sq c52_23 c52_20 c52_22 := sqE _ _
def c52_24 : EC := .sq c52_3 c52_23
@[simp] theorem c52_24e : Sq c52_24 c52_3 c52_23 := sqE _ _
def c52_25 : EC := .sq c52_2 c52_24
@[simp] theorem c52_25e : Sq c52_25 c52_2 c52_24 := sqE _ _
def c52_26 : EC := .sq c52_1 c52_25
@[simp] theorem c52_26e : Sq c52_26 c52_1 c52_25 := sqE _ _
def c52_27 : EC := .sq c52_0 c52_26
@[simp] theorem c52_27e : Sq c52_27 c52_0 c52_26 := sqE _ _
def c_group_sampleEntity_52 : EC := c52_27
theorem k_52 : ecF Try.prog 52 = some (50, c_group_sampleEntity_52, [.ce 6 5 true]) := by kernel_rfl

/-- tallystone/group.sampleEntity, with slices that grow in boxes -/
@[simp] def b52_0l : List EO := [o 6 (.alloc [.t (.str []), .t (.str []), .snil, .snil, .t (.bool false)]) []]
def b52_0 : EC := .rg b52_0l false
@[simp] theorem b52_0e : Rg b52_0 b52_0l false := rgE _ _
@[simp] def b52_1l : List EO := [m 13 0,
 m 14 1,
 m 15 2,
 o 16 (.build [.t (.str []), .t (.str []), .snil, .snil, .t (.bool false)] [(0, 1), (1, 1), (4, 1)]) [t 13, t 14, t 15],
 o 7 (.alloc [.t (.str []), .t (.str []), .snil, .snil, .t (.bool false)]) [],
 u (.store 5) [t 7, t 16]]
def b52_1 : EC := .rg b52_1l false
@[simp] theorem b52_1e : Rg b52_1 b52_1l false := rgE _ _
@[simp] def b52_2l : List EO := [o 17 (.bsl 1) [i 1, i 1, i 1, i 1, i 1, i 2, i 2, i 3, i 3, i 4, i 4, i 4, i 5, i 5],
 m 8 17]
def b52_2 : EC := .rg b52_2l false
@[simp] theorem b52_2e : Rg b52_2 b52_2l false := rgE _ _
@[simp] def b52_3l : List EO := [o 18 (.bsl 1) [i 1010, i 1100, i 1200, i 1300, i 1500, i 2000, i 2100, i 3000, i 3300, i 4000, i 4100, i 4700, i 5000, i 5100],
 m 9 18]
def b52_3 : EC := .rg b52_3l false
@[simp] theorem b52_3e : Rg b52_3 b52_3l false := rgE _ _
@[simp] def b52_4l : List EO := [m 19 8,
 o 20 .lenL [t 19],
 o 21 .mv [i 0]]
def b52_4 : EC := .rg b52_4l false
@[simp] theorem b52_4e : Rg b52_4 b52_4l false := rgE _ _
@[simp] def b52_5l : List EO := [o 22 (.bin .lss) [t 21, t 20]]
def b52_5 : EC := .rg b52_5l false
@[simp] theorem b52_5e : Rg b52_5 b52_5l false := rgE _ _
def b52_6 : EC := .cd (t 22) .skip (.ex 0)
@[simp] theorem b52_6e : Cd b52_6 (t 22) .skip (.ex 0) := cdE _ _ _
@[simp] def b52_7l : List EO := [m 23 21,
 o 24 (.iaS 1) [t 19, t 21],
 o 25 (.load 1 false) [t 24],
 m 10 23,
 m 11 25]
def b52_7 : EC := .rg b52_7l false
@[simp] theorem b52_7e : Rg b52_7 b52_7l false := rgE _ _
@[simp] def b52_8l : List EO := [m 26 10,
 o 27 (.bin .add) [t 26, i 1],
 o 28 (.bin .mul) [i 10, t 27],
 m 12 28]
def b52_8 : EC := .rg b52_8l false
@[simp] theorem b52_8e : Rg b52_8 b52_8l false := rgE _ _
@[simp] def b52_9l : List EO := [o 29 (.faddr 2) [t 7],
 o 30 (.load 1 false) [t 29],
 m 31 12,
 m 32 11,
 o 33 (.build [.t (.int .i64 0), .t (.int .i64 0), .t (.int .i64 0), .t (.int .i64 0)] [(0, 1), (1, 1)]) [t 31, t 32],
 o 34 (.bsl 4) [t 33],
 o 35 (.appB 78 4 32) [t 30, t 34],
 o 36 (.faddr 2) [t 7],
 u (.store 1) [t 36, t 35]]
def b52_9 : EC := .rg b52_9l false
@[simp] theorem b52_9e : Rg b52_9 b52_9l false := rgE _ _
@[simp] def b52_10l : List EO := [o 37 (.faddr 3) [t 7],
 o 38 (.load 1 false) [t 37],
 m 39 12,
 m 40 9,
 m 41 10,
 o 42 (.iaS 1) [t 40, t 41],
 o 43 (.load 1 false) [t 42],
 o 44 (.build [.t (.int .i64 0), .t (.int .i64 0), .t (.int .i64 0)] [(0, 1), (1, 1), (2, 1)]) [t 39, t 43, i (-25567)],
 o 45 (.bsl 3) [t 44],
 o 46 (.appB 124 3 24) [t 38, t 45],
 o 47 (.faddr 3) [t 7],
 u (.store 1) [t 47, t 46]]
def b52_10 : EC := .rg b52_10l true
@[simp] theorem b52_10e : Rg b52_10 b52_10l true := rgE _ _
def b52_11 : EC := .sq b52_9 b52_10
@[simp] theorem b52_11e : Sq b52_11 b52_9 b52_10 := sqE _ _
def b52_12 : EC := .sq b52_8 b52_11
@[simp] theorem b52_12e : Sq b52_12 b52_8 b52_11 := sqE _ _
def b52_13 : EC := .sq b52_7 b52_12
@[simp] theorem b52_13e : Sq b52_13 b52_7 b52_12 := sqE _ _
def b52_14 : EC := .bk 1 b52_13
@[simp] theorem b52_14e : Bk b52_14 1 b52_13 := bkE _ _
@[simp] def b52_15l : List EO := [o 48 (.bin .add) [t 21, i 1],
 m 21 48]
def b52_15 : EC := .rg b52_15l false
@[simp] theorem b52_15e : Rg b52_15 b52_15l false := rgE _ _
def b52_16 : EC := .sq b52_14 b52_15
@[simp] theorem b52_16e : Sq b52_16 b52_14 b52_15 := sqE _ _
def b52_17 : EC := .sq b52_6 b52_16
@[simp] theorem b52_17e : Sq b52_17 b52_6 b52_16 := sqE _ _
def b52_18 : EC := .sq b52_5 b52_17
@[simp] theorem b52_18e : Sq b52_18 b52_5 b52_17 := sqE _ _
def b52_19 : EC := .bk 0 (.lp b52_18)
@[simp] theorem b52_19e : Bk b52_19 0 (.lp b52_18) := bkE _ _
def b52_20 : EC := .sq b52_4 b52_19
@[simp] theorem b52_20e : Sq b52_20 b52_4 b52_19 := sqE _ _
@[simp] def b52_21l : List EO := [o 49 (.load 5 true) [t 7],
 u (.store 5) [t 6, t 49]]
def b52_21 : EC := .rg b52_21l false
@[simp] theorem b52_21e : Rg b52_21 b52_21l false := rgE _ _
def b52_22 : EC := .sq b52_21 .rt
@[simp] theorem b52_22e : Sq b52_22 b52_21 .rt := sqE _ _
def b52_23 : EC := .sq b52_20 b52_22
@[simp] theorem b52_23e : Sq b52_23 b52_20 b52_22 := sqE _ _
def b52_24 : EC := .sq b52_3 b52_23
@[simp] theorem b52_24e : Sq b52_24 b52_3 b52_23 := sqE _ _
def b52_25 : EC := .sq b52_2 b52_24
@[simp] theorem b52_25e : Sq b52_25 b52_2 b52_24 := sqE _ _
def b52_26 : EC := .sq b52_1 b52_25
@[simp] theorem b52_26e : Sq b52_26 b52_1 b52_25 := sqE _ _
def b52_27 : EC := .sq b52_0 b52_26
@[simp] theorem b52_27e : Sq b52_27 b52_0 b52_26 := sqE _ _
def b_group_sampleEntity_52 : EC := b52_27
theorem kb_52 : ecB Try.prog 52 = some (50, b_group_sampleEntity_52, [.ce 6 5 true]) := by kernel_rfl

/-- tallystone/group.Valid -/
@[simp] def c53_0l : List EO := [o 1 .box [t 0],
 o 2 .mv [b false]]
def c53_0 : EC := .rg c53_0l false
@[simp] theorem c53_0e : Rg c53_0 c53_0l false := rgE _ _
@[simp] def c53_1l : List EO := [o 6 (.faddr 0) [t 1],
 o 7 (.load 1 false) [t 6],
 o 8 (.call 72) [t 7],
 o 9 (.un .not) [t 8],
 m 10 9,
 n 11 10 (.faddr 1) [t 1],
 n 12 10 (.load 3 true) [t 11],
 n 13 10 (.call 73) [t 12],
 n 14 10 (.un .not) [t 13],
 o 15 .pick [t 10, b true, t 14],
 m 16 15,
 n 17 16 (.load 21 true) [t 1],
 n 18 16 (.call 74) [t 17],
 n 19 16 (.un .not) [t 18],
 o 20 .pick [t 16, b true, t 19],
 m 21 20,
 n 22 21 (.faddr 20) [t 1],
 n 23 21 (.load 1 false) [t 22],
 n 24 21 .lenL [t 23],
 n 25 21 (.bin .lss) [t 24, i 1],
 o 26 .pick [t 21, b true, t 25],
 m 27 26,
 n 28 27 (.faddr 20) [t 1],
 n 29 27 (.load 1 false) [t 28],
 n 30 27 .lenL [t 29],
 n 31 27 (.bin .gtr) [t 30, i 12],
 o 32 .pick [t 27, b true, t 31],
 m 33 32,
 n 34 33 (.faddr 20) [t 1],
 n 35 33 (.load 1 false) [t 34],
 n 36 33 (.iaS 5) [t 35, i 0],
 n 37 33 (.faddr 4) [t 36],
 n 38 33 (.load 1 false) [t 37],
 o 39 .pick [t 33, b true, t 38]]
def c53_1 : EC := .rg c53_1l false
@[simp] theorem c53_1e : Rg c53_1 c53_1l false := rgE _ _
@[simp] def c53_2l : List EO := [o 2 .mv [b false]]
def c53_2 : EC := .rg c53_2l false
@[simp] theorem c53_2e : Rg c53_2 c53_2l false := rgE _ _
def c53_3 : EC := .sq c53_2 .rt
@[simp] theorem c53_3e : Sq c53_3 c53_2 .rt := sqE _ _
def c53_4 : EC := .cd (t 39) c53_3 .skip
@[simp] theorem c53_4e : Cd c53_4 (t 39) c53_3 .skip := cdE _ _ _
def c53_5 : EC := .sq c53_1 c53_4
@[simp] theorem c53_5e : Sq c53_5 c53_1 c53_4 := sqE _ _
@[simp] def c53_6l : List EO := [o 40 .mkmap [],
 m 3 40]
def c53_6 : EC := .rg c53_6l false
@[simp] theorem c53_6e : Rg c53_6 c53_6l false := rgE _ _
@[simp] def c53_7l : List EO := [o 41 (.faddr 20) [t 1],
 o 42 (.load 1 false) [t 41],
 o 43 .lenL [t 42],
 o 44 .mv [i 0]]
def c53_7 : EC := .rg c53_7l false
@[simp] theorem c53_7e : Rg c53_7 c53_7l false := rgE _ _
@[simp] def c53_8l : List EO := [o 45 (.bin .lss) [t 44, t 43]]
def c53_8 : EC := .rg c53_8l false
@[simp] theorem c53_8e : Rg c53_8 c53_8l false := rgE _ _
def c53_9 : EC := .cd (t 45) .skip (.ex 0)
@[simp] theorem c53_9e : Cd c53_9 (t 45) .skip (.ex 0) := cdE _ _ _
@[simp] def c53_10l : List EO := [o 46 (.iaS 5) [t 42, t 44],
 o 47 (.load 5 true) [t 46],
 o 5 (.alloc [.t (.str []), .t (.str []), .snil, .snil, .t (.bool false)]) [],
 u (.store 5) [t 5, t 47]]
def c53_10 : EC := .rg c53_10l false
@[simp] theorem c53_10e : Rg c53_10 c53_10l false := rgE _ _
@[simp] def c53_11l : List EO := [m 48 3,
 o 49 (.faddr 0) [t 5],
 o 50 (.load 1 false) [t 49],
 o 51 (.lkp false [2] false false [.t (.bool false)]) [t 48, t 50],
 m 52 51,
 n 53 52 (.load 21 true) [t 1],
 n 54 52 (.load 5 true) [t 5],
 n 55 52 (.call 75) [t 53, t 54],
 n 56 52 (.un .not) [t 55],
 o 57 .pick [t 52, b true, t 56]]
def c53_11 : EC := .rg c53_11l false
@[simp] theorem c53_11e : Rg c53_11 c53_11l false := rgE _ _
@[simp] def c53_12l : List EO := [o 2 .mv [b false]]
def c53_12 : EC := .rg c53_12l false
@[simp] theorem c53_12e : Rg c53_12 c53_12l false := rgE _ _
def c53_13 : EC := .sq c53_12 .rt
@[simp] theorem c53_13e : Sq c53_13 c53_12 .rt := sqE _ _
def c53_14 : EC := .cd (t 57) c53_13 .skip
@[simp] theorem c53_14e : Cd c53_14 (t 57) c53_13 .skip := cdE _ _ _
def c53_15 : EC := .sq c53_11 c53_14
@[simp] theorem c53_15e : Sq c53_15 c53_11 c53_14 := sqE _ _
@[simp] def c53_16l : List EO := [m 58 3,
 o 59 (.faddr 0) [t 5],
 o 60 (.load 1 false) [t 59],
 u (.mup false [2]) [t 58, t 60, b true]]
def c53_16 : EC := .rg c53_16l false
@[simp] theorem c53_16e : Rg c53_16 c53_16l false := rgE _ _
def c53_17 : EC := .sq c53_15 c53_16
@[simp] theorem c53_17e : Sq c53_17 c53_15 c53_16 := sqE _ _
def c53_18 : EC := .sq c53_10 c53_17
@[simp] theorem c53_18e : Sq c53_18 c53_10 c53_17 := sqE _ _
def c53_19 : EC := .bk 1 c53_18
@[simp] theorem c53_19e : Bk c53_19 1 c53_18 := bkE _ _
@[simp] def c53_20l : List EO := [o 61 (.bin .add) [t 44, i 1],
 m 44 61]
def c53_20 : EC := .rg c53_20l false
@[simp] theorem c53_20e : Rg c53_20 c53_20l false := rgE _ _
def c53_21 : EC := .sq c53_19 c53_20
@[simp] theorem c53_21e : Sq c53_21 c53_19 c53_20 := sqE _ _
def c53_22 : EC := .sq c53_9 c53_21
@[simp] theorem c53_22e : Sq c53_22 c53_9 c53_21 := sqE _ _
def c53_23 : EC := .sq c53_8 c53_22
@[simp] theorem c53_23e : Sq c53_23 c53_8 c53_22 := sqE _ _
def c53_24 : EC := .bk 0 (.lp c53_23)
@[simp] theorem c53_24e : Bk c53_24 0 (.lp c53_23) := bkE _ _
def c53_25 : EC := .sq c53_7 c53_24
@[simp] theorem c53_25e : Sq c53_25 c53_7 c53_24 := sqE _ _
@[simp] def c53_26l : List EO := [o 2 .mv [b true]]
def c53_26 : EC := .rg c53_26l false
@[simp] theorem c53_26e : Rg c53_26 c53_26l false := rgE _ _
def c53_27 : EC := .sq c53_26 .rt
@[simp] theorem c53_27e : Sq c53_27 c53_26 .rt := sqE _ _
def c53_28 : EC := .sq c53_25 c53_27
@[simp] theorem c53_28e : Sq c53_28 c53_25 c53_27 := sqE _ _
def c53_29 : EC := .sq c53_6 c53_28
@[simp] theorem c53_29e : Sq c53_29 c53_6 c53_28 := sqE _ _
def c53_30 : EC := .sq c53_5 c53_29
@[simp] theorem c53_30e : Sq c53_30 c53_5 c53_29 := sqE _ _
def c53_31 : EC := .sq c53_0 c53_30
@[simp] theorem c53_31e : Sq c53_31 c53_0 c53_30 := sqE _ _
def c_group_Valid_53 : EC := c53_31
theorem k_53 : ecF Try.prog 53 = some (62, c_group_Valid_53, [.tm 2]) := by kernel_rfl

/-- tallystone/calendar.First -/
@[simp] def c54_0l : List EO := [o 2 .box [t 0],
 o 4 .mv [i 0],
 o 5 .mv [i 0]]
def c54_0 : EC := .rg c54_0l false
@[simp] theorem c54_0e : Rg c54_0 c54_0l false := rgE _ _
@[simp] def c54_1l : List EO := [o 7 (.load 3 true) [t 2],
 m 8 1,
 o 9 (.call 76) [t 7, t 8],
 m 6 9]
def c54_1 : EC := .rg c54_1l false
@[simp] theorem c54_1e : Rg c54_1 c54_1l false := rgE _ _
@[simp] def c54_2l : List EO := [m 10 6,
 o 11 (.bin .neq) [t 10, i 0]]
def c54_2 : EC := .rg c54_2l false
@[simp] theorem c54_2e : Rg c54_2 c54_2l false := rgE _ _
@[simp] def c54_3l : List EO := [m 12 6,
 o 4 .mv [i 0],
 m 5 12]
def c54_3 : EC := .rg c54_3l false
@[simp] theorem c54_3e : Rg c54_3 c54_3l false := rgE _ _
def c54_4 : EC := .sq c54_3 .rt
@[simp] theorem c54_4e : Sq c54_4 c54_3 .rt := sqE _ _
def c54_5 : EC := .cd (t 11) c54_4 .skip
@[simp] theorem c54_5e : Cd c54_5 (t 11) c54_4 .skip := cdE _ _ _
def c54_6 : EC := .sq c54_2 c54_5
@[simp] theorem c54_6e : Sq c54_6 c54_2 c54_5 := sqE _ _
def c54_7 : EC := .sq c54_1 c54_6
@[simp] theorem c54_7e : Sq c54_7 c54_1 c54_6 := sqE _ _
@[simp] def c54_8l : List EO := [o 13 (.load 3 true) [t 2],
 m 14 1,
 o 15 (.call 77) [t 13, t 14],
 o 16 (.ext 0) [t 15],
 o 17 (.ext 1) [t 15],
 m 4 16,
 m 5 17]
def c54_8 : EC := .rg c54_8l false
@[simp] theorem c54_8e : Rg c54_8 c54_8l false := rgE _ _
def c54_9 : EC := .sq c54_8 .rt
@[simp] theorem c54_9e : Sq c54_9 c54_8 .rt := sqE _ _
def c54_10 : EC := .sq c54_7 c54_9
@[simp] theorem c54_10e : Sq c54_10 c54_7 c54_9 := sqE _ _
def c54_11 : EC := .sq c54_0 c54_10
@[simp] theorem c54_11e : Sq c54_11 c54_0 c54_10 := sqE _ _
def c_calendar_First_54 : EC := c54_11
theorem k_54 : ecF Try.prog 54 = some (18, c_calendar_First_54, [.tm 4, .tm 5]) := by kernel_rfl

/-- tallystone/calendar.Last -/
@[simp] def c55_0l : List EO := [o 2 .box [t 0],
 o 4 .mv [i 0],
 o 5 .mv [i 0]]
def c55_0 : EC := .rg c55_0l false
@[simp] theorem c55_0e : Rg c55_0 c55_0l false := rgE _ _
@[simp] def c55_1l : List EO := [o 13 (.load 3 true) [t 2],
 m 14 1,
 o 15 (.call 54) [t 13, t 14],
 m 12 15,
 o 16 (.ext 0) [t 12],
 o 17 (.ext 1) [t 12],
 m 6 16,
 m 7 17]
def c55_1 : EC := .rg c55_1l false
@[simp] theorem c55_1e : Rg c55_1 c55_1l false := rgE _ _
@[simp] def c55_2l : List EO := [m 18 7,
 o 19 (.bin .neq) [t 18, i 0]]
def c55_2 : EC := .rg c55_2l false
@[simp] theorem c55_2e : Rg c55_2 c55_2l false := rgE _ _
@[simp] def c55_3l : List EO := [m 20 7,
 o 4 .mv [i 0],
 m 5 20]
def c55_3 : EC := .rg c55_3l false
@[simp] theorem c55_3e : Rg c55_3 c55_3l false := rgE _ _
def c55_4 : EC := .sq c55_3 .rt
@[simp] theorem c55_4e : Sq c55_4 c55_3 .rt := sqE _ _
def c55_5 : EC := .cd (t 19) c55_4 .skip
@[simp] theorem c55_5e : Cd c55_5 (t 19) c55_4 .skip := cdE _ _ _
def c55_6 : EC := .sq c55_2 c55_5
@[simp] theorem c55_6e : Sq c55_6 c55_2 c55_5 := sqE _ _
@[simp] def c55_7l : List EO := [m 22 6,
 o 23 (.call 78) [t 22],
 m 21 23,
 o 24 (.ext 0) [t 21],
 o 25 (.ext 1) [t 21],
 o 26 (.ext 2) [t 21],
 o 27 (.ext 3) [t 21],
 m 8 24,
 m 9 25,
 m 10 26,
 m 11 27]
def c55_7 : EC := .rg c55_7l false
@[simp] theorem c55_7e : Rg c55_7 c55_7l false := rgE _ _
@[simp] def c55_8l : List EO := [m 28 6,
 m 29 8,
 m 30 9,
 o 31 (.call 79) [t 29, t 30],
 o 32 (.bin .add) [t 28, t 31],
 o 33 (.bin .sub) [t 32, i 1],
 m 4 33,
 o 5 .mv [i 0]]
def c55_8 : EC := .rg c55_8l false
@[simp] theorem c55_8e : Rg c55_8 c55_8l false := rgE _ _
def c55_9 : EC := .sq c55_8 .rt
@[simp] theorem c55_9e : Sq c55_9 c55_8 .rt := sqE _ _
def c55_10 : EC := .sq c55_7 c55_9
@[simp] theorem c55_10e : Sq c55_10 c55_7 c55_9 := sqE _ _
def c55_11 : EC := .sq c55_6 c55_10
@[simp] theorem c55_11e : Sq c55_11 c55_6 c55_10 := sqE _ _
def c55_12 : EC := .sq c55_1 c55_11
@[simp] theorem c55_12e : Sq c55_12 c55_1 c55_11 := sqE _ _
def c55_13 : EC := .sq c55_0 c55_12
@[simp] theorem c55_13e : Sq c55_13 c55_0 c55_12 := sqE _ _
def c_calendar_Last_55 : EC := c55_13
theorem k_55 : ecF Try.prog 55 = some (34, c_calendar_Last_55, [.tm 4, .tm 5]) := by kernel_rfl

/-- slices.IndexFunc[[]tallystone/api.Account,tallystone/api.Account] -/
@[simp] def c56_0l : List EO := [o 4 .mv [i 0]]
def c56_0 : EC := .rg c56_0l false
@[simp] theorem c56_0e : Rg c56_0 c56_0l false := rgE _ _
@[simp] def c56_1l : List EO := [m 6 0,
 o 7 .lenL [t 6],
 o 8 .mv [i 0]]
def c56_1 : EC := .rg c56_1l false
@[simp] theorem c56_1e : Rg c56_1 c56_1l false := rgE _ _
@[simp] def c56_2l : List EO := [o 9 (.bin .lss) [t 8, t 7]]
def c56_2 : EC := .rg c56_2l false
@[simp] theorem c56_2e : Rg c56_2 c56_2l false := rgE _ _
def c56_3 : EC := .cd (t 9) .skip (.ex 0)
@[simp] theorem c56_3e : Cd c56_3 (t 9) .skip (.ex 0) := cdE _ _ _
@[simp] def c56_4l : List EO := [m 10 8,
 m 5 10]
def c56_4 : EC := .rg c56_4l false
@[simp] theorem c56_4e : Rg c56_4 c56_4l false := rgE _ _
@[simp] def c56_5l : List EO := [m 11 1,
 m 12 0,
 m 13 5,
 o 14 (.iaS 4) [t 12, t 13],
 o 15 (.load 4 true) [t 14],
 o 16 .callv [t 11, t 15]]
def c56_5 : EC := .rg c56_5l false
@[simp] theorem c56_5e : Rg c56_5 c56_5l false := rgE _ _
@[simp] def c56_6l : List EO := [m 17 5,
 m 4 17]
def c56_6 : EC := .rg c56_6l false
@[simp] theorem c56_6e : Rg c56_6 c56_6l false := rgE _ _
def c56_7 : EC := .sq c56_6 .rt
@[simp] theorem c56_7e : Sq c56_7 c56_6 .rt := sqE _ _
def c56_8 : EC := .cd (t 16) c56_7 .skip
@[simp] theorem c56_8e : Cd c56_8 (t 16) c56_7 .skip := cdE _ _ _
def c56_9 : EC := .sq c56_5 c56_8
@[simp] theorem c56_9e : Sq c56_9 c56_5 c56_8 := sqE _ _
def c56_10 : EC := .sq c56_4 c56_9
@[simp] theorem c56_10e : Sq c56_10 c56_4 c56_9 := sqE _ _
def c56_11 : EC := .bk 1 c56_10
@[simp] theorem c56_11e : Bk c56_11 1 c56_10 := bkE _ _
@[simp] def c56_12l : List EO := [o 18 (.bin .add) [t 8, i 1],
 m 8 18]
def c56_12 : EC := .rg c56_12l false
@[simp] theorem c56_12e : Rg c56_12 c56_12l false := rgE _ _
def c56_13 : EC := .sq c56_11 c56_12
@[simp] theorem c56_13e : Sq c56_13 c56_11 c56_12 := sqE _ _
def c56_14 : EC := .sq c56_3 c56_13
@[simp] theorem c56_14e : Sq c56_14 c56_3 c56_13 := sqE _ _
def c56_15 : EC := .sq c56_2 c56_14
@[simp] theorem c56_15e : Sq c56_15 c56_2 c56_14 := sqE _ _
def c56_16 : EC := .bk 0 (.lp c56_15)
@[simp] theorem c56_16e : Bk c56_16 0 (.lp c56_15) := bkE _ _
def c56_17 : EC := .sq c56_1 c56_16
@[simp] theorem c56_17e : Sq c56_17 c56_1 c56_16 := sqE _ _
@[simp] def c56_18l : List EO := [o 4 .mv [i (-1)]]
def c56_18 : EC := .rg c56_18l false
@[simp] theorem c56_18e : Rg c56_18 c56_18l false := rgE _ _
def c56_19 : EC := .sq c56_18 .rt
@[simp] theorem c56_19e : Sq c56_19 c56_18 .rt := sqE _ _
def c56_20 : EC := .sq c56_17 c56_19
@[simp] theorem c56_20e : Sq c56_20 c56_17 c56_19 := sqE _ _
def c56_21 : EC := .sq c56_0 c56_20
@[simp] theorem c56_21e : Sq c56_21 c56_0 c56_20 := sqE _ _
def c_api_Account__56 : EC := c56_21
theorem k_56 : ecF Try.prog 56 = some (19, c_api_Account__56, [.tm 4]) := by kernel_rfl

/-- tallystone/group.Account$1 -/
@[simp] def c57_0l : List EO := [o 2 .box [t 0],
 o 3 .mv [b false]]
def c57_0 : EC := .rg c57_0l false
@[simp] theorem c57_0e : Rg c57_0 c57_0l false := rgE _ _
@[simp] def c57_1l : List EO := [o 4 (.faddr 0) [t 2],
 o 5 (.load 1 false) [t 4],
 o 6 (.load 1 false) [t 1],
 o 7 (.bin .eql) [t 5, t 6],
 m 3 7]
def c57_1 : EC := .rg c57_1l false
@[simp] theorem c57_1e : Rg c57_1 c57_1l false := rgE _ _
def c57_2 : EC := .sq c57_1 .rt
@[simp] theorem c57_2e : Sq c57_2 c57_1 .rt := sqE _ _
def c57_3 : EC := .sq c57_0 c57_2
@[simp] theorem c57_3e : Sq c57_3 c57_0 c57_2 := sqE _ _
def c_group_AccountS1_57 : EC := c57_3
theorem k_57 : ecF Try.prog 57 = some (8, c_group_AccountS1_57, [.tm 3]) := by kernel_rfl

/-- (tallystone/note.collector).parts -/
@[simp] def c58_0l : List EO := [o 4 .box [t 0],
 o 5 .box [t 1]]
def c58_0 : EC := .rg c58_0l false
@[simp] theorem c58_0e : Rg c58_0 c58_0l false := rgE _ _
@[simp] def c58_1l : List EO := [o 12 (.faddr 2) [t 5],
 o 13 (.load 1 false) [t 12],
 o 14 .lenL [t 13],
 o 15 .mv [i 0]]
def c58_1 : EC := .rg c58_1l false
@[simp] theorem c58_1e : Rg c58_1 c58_1l false := rgE _ _
@[simp] def c58_2l : List EO := [o 16 (.bin .lss) [t 15, t 14]]
def c58_2 : EC := .rg c58_2l false
@[simp] theorem c58_2e : Rg c58_2 c58_2l false := rgE _ _
def c58_3 : EC := .cd (t 16) .skip (.ex 0)
@[simp] theorem c58_3e : Cd c58_3 (t 16) .skip (.ex 0) := cdE _ _ _
@[simp] def c58_4l : List EO := [o 17 (.iaS 5) [t 13, t 15],
 o 18 (.load 5 true) [t 17],
 o 9 (.alloc [.t (.int .i64 0), .t (.int .i64 0), .t (.int .i64 0), .t (.int .i64 0), .snil]) [],
 u (.store 5) [t 9, t 18]]
def c58_4 : EC := .rg c58_4l false
@[simp] theorem c58_4e : Rg c58_4 c58_4l false := rgE _ _
@[simp] def c58_5l : List EO := [o 19 (.faddr 4) [t 9],
 o 20 (.load 1 false) [t 19],
 o 21 .lenL [t 20],
 o 22 .mv [i 0]]
def c58_5 : EC := .rg c58_5l false
@[simp] theorem c58_5e : Rg c58_5 c58_5l false := rgE _ _
@[simp] def c58_6l : List EO := [o 23 (.bin .lss) [t 22, t 21]]
def c58_6 : EC := .rg c58_6l false
@[simp] theorem c58_6e : Rg c58_6 c58_6l false := rgE _ _
def c58_7 : EC := .cd (t 23) .skip (.ex 2)
@[simp] theorem c58_7e : Cd c58_7 (t 23) .skip (.ex 2) := cdE _ _ _
@[simp] def c58_8l : List EO := [o 24 (.iaS 2) [t 20, t 22],
 o 25 (.load 2 true) [t 24],
 o 11 (.alloc [.t (.int .i64 0), .t (.int .i64 0)]) [],
 u (.store 2) [t 11, t 25]]
def c58_8 : EC := .rg c58_8l false
@[simp] theorem c58_8e : Rg c58_8 c58_8l false := rgE _ _
@[simp] def c58_9l : List EO := [o 26 (.faddr 0) [t 11],
 o 27 (.load 1 false) [t 26],
 o 28 (.faddr 0) [t 4],
 o 29 (.load 1 false) [t 28],
 o 30 .nilc [t 29],
 o 31 (.faddr 0) [t 30],
 o 32 (.load 1 false) [t 31],
 o 33 (.bin .neq) [t 27, t 32]]
def c58_9 : EC := .rg c58_9l true
@[simp] theorem c58_9e : Rg c58_9 c58_9l true := rgE _ _
def c58_10 : EC := .cd (t 33) (.ex 3) .skip
@[simp] theorem c58_10e : Cd c58_10 (t 33) (.ex 3) .skip := cdE _ _ _
def c58_11 : EC := .sq c58_9 c58_10
@[simp] theorem c58_11e : Sq c58_11 c58_9 c58_10 := sqE _ _
@[simp] def c58_12l : List EO := [m 34 2,
 o 35 .nilc [t 34],
 o 36 (.load 1 false) [t 35],
 o 37 (.faddr 1) [t 11],
 o 38 (.load 1 false) [t 37],
 o 39 (.bin .add) [t 36, t 38],
 o 40 .nilc [t 34],
 u (.store 1) [t 40, t 39]]
def c58_12 : EC := .rg c58_12l true
@[simp] theorem c58_12e : Rg c58_12 c58_12l true := rgE _ _
@[simp] def c58_13l : List EO := [o 41 (.faddr 0) [t 9],
 o 42 (.load 1 false) [t 41],
 o 43 (.bin .geq) [t 42, i 1],
 m 44 43,
 y 45 44 (.faddr 0) [t 9],
 y 46 44 (.load 1 false) [t 45],
 y 47 44 (.bin .leq) [t 46, i 10],
 o 48 .pick [t 44, t 47, b false]]
def c58_13 : EC := .rg c58_13l false
@[simp] theorem c58_13e : Rg c58_13 c58_13l false := rgE _ _
@[simp] def c58_14l : List EO := [o 49 (.faddr 0) [t 4],
 o 50 (.load 1 false) [t 49],
 o 51 (.faddr 0) [t 9],
 o 52 (.load 1 false) [t 51],
 o 53 .nilc [t 50],
 o 54 (.faddr 5) [t 53],
 o 55 (.iaA 11 1) [t 54, t 52],
 o 56 (.load 1 false) [t 55],
 m 57 3,
 o 58 (.faddr 1) [t 11],
 o 59 (.load 1 false) [t 58],
 o 60 (.bin .mul) [t 57, t 59],
 o 61 (.bin .add) [t 56, t 60],
 o 62 .nilc [t 50],
 o 63 (.faddr 5) [t 62],
 o 64 (.iaA 11 1) [t 63, t 52],
 u (.store 1) [t 64, t 61]]
def c58_14 : EC := .rg c58_14l true
@[simp] theorem c58_14e : Rg c58_14 c58_14l true := rgE _ _
def c58_15 : EC := .cd (t 48) c58_14 .skip
@[simp] theorem c58_15e : Cd c58_15 (t 48) c58_14 .skip := cdE _ _ _
def c58_16 : EC := .sq c58_13 c58_15
@[simp] theorem c58_16e : Sq c58_16 c58_13 c58_15 := sqE _ _
def c58_17 : EC := .sq c58_12 c58_16
@[simp] theorem c58_17e : Sq c58_17 c58_12 c58_16 := sqE _ _
def c58_18 : EC := .sq c58_11 c58_17
@[simp] theorem c58_18e : Sq c58_18 c58_11 c58_17 := sqE _ _
def c58_19 : EC := .sq c58_8 c58_18
@[simp] theorem c58_19e : Sq c58_19 c58_8 c58_18 := sqE _ _
def c58_20 : EC := .bk 3 c58_19
@[simp] theorem c58_20e : Bk c58_20 3 c58_19 := bkE _ _
@[simp] def c58_21l : List EO := [o 65 (.bin .add) [t 22, i 1],
 m 22 65]
def c58_21 : EC := .rg c58_21l false
@[simp] theorem c58_21e : Rg c58_21 c58_21l false := rgE _ _
def c58_22 : EC := .sq c58_20 c58_21
@[simp] theorem c58_22e : Sq c58_22 c58_20 c58_21 := sqE _ _
def c58_23 : EC := .sq c58_7 c58_22
@[simp] theorem c58_23e : Sq c58_23 c58_7 c58_22 := sqE _ _
def c58_24 : EC := .sq c58_6 c58_23
@[simp] theorem c58_24e : Sq c58_24 c58_6 c58_23 := sqE _ _
def c58_25 : EC := .bk 2 (.lp c58_24)
@[simp] theorem c58_25e : Bk c58_25 2 (.lp c58_24) := bkE _ _
def c58_26 : EC := .sq c58_5 c58_25
@[simp] theorem c58_26e : Sq c58_26 c58_5 c58_25 := sqE _ _
def c58_27 : EC := .sq c58_4 c58_26
@[simp] theorem c58_27e : Sq c58_27 c58_4 c58_26 := sqE _ _
def c58_28 : EC := .bk 1 c58_27
@[simp] theorem c58_28e : Bk c58_28 1 c58_27 := bkE _ _
@[simp] def c58_29l : List EO := [o 66 (.bin .add) [t 15, i 1],
 m 15 66]
def c58_29 : EC := .rg c58_29l false
@[simp] theorem c58_29e : Rg c58_29 c58_29l false := rgE _ _
def c58_30 : EC := .sq c58_28 c58_29
@[simp] theorem c58_30e : Sq c58_30 c58_28 c58_29 := sqE _ _
def c58_31 : EC := .sq c58_3 c58_30
@[simp] theorem c58_31e : Sq c58_31 c58_3 c58_30 := sqE _ _
def c58_32 : EC := .sq c58_2 c58_31
@[simp] theorem c58_32e : Sq c58_32 c58_2 c58_31 := sqE _ _
def c58_33 : EC := .bk 0 (.lp c58_32)
@[simp] theorem c58_33e : Bk c58_33 0 (.lp c58_32) := bkE _ _
def c58_34 : EC := .sq c58_1 c58_33
@[simp] theorem c58_34e : Sq c58_34 c58_1 c58_33 := sqE _ _
def c58_35 : EC := .sq c58_0 c58_34
@[simp] theorem c58_35e : Sq c58_35 c58_0 c58_34 := sqE _ _
def c_note_collector__parts_58 : EC := c58_35
theorem k_58 : ecF Try.prog 58 = some (67, c_note_collector__parts_58, []) := by kernel_rfl

/-- slices.IndexFunc[[]int,int] -/
@[simp] def c59_0l : List EO := [o 4 .mv [i 0]]
def c59_0 : EC := .rg c59_0l false
@[simp] theorem c59_0e : Rg c59_0 c59_0l false := rgE _ _
@[simp] def c59_1l : List EO := [m 6 0,
 o 7 .lenL [t 6],
 o 8 .mv [i 0]]
def c59_1 : EC := .rg c59_1l false
@[simp] theorem c59_1e : Rg c59_1 c59_1l false := rgE _ _
@[simp] def c59_2l : List EO := [o 9 (.bin .lss) [t 8, t 7]]
def c59_2 : EC := .rg c59_2l false
@[simp] theorem c59_2e : Rg c59_2 c59_2l false := rgE _ _
def c59_3 : EC := .cd (t 9) .skip (.ex 0)
@[simp] theorem c59_3e : Cd c59_3 (t 9) .skip (.ex 0) := cdE _ _ _
@[simp] def c59_4l : List EO := [m 10 8,
 m 5 10]
def c59_4 : EC := .rg c59_4l false
@[simp] theorem c59_4e : Rg c59_4 c59_4l false := rgE _ _
@[simp] def c59_5l : List EO := [m 11 1,
 m 12 0,
 m 13 5,
 o 14 (.iaS 1) [t 12, t 13],
 o 15 (.load 1 false) [t 14],
 o 16 .callv [t 11, t 15]]
def c59_5 : EC := .rg c59_5l false
@[simp] theorem c59_5e : Rg c59_5 c59_5l false := rgE _ _
@[simp] def c59_6l : List EO := [m 17 5,
 m 4 17]
def c59_6 : EC := .rg c59_6l false
@[simp] theorem c59_6e : Rg c59_6 c59_6l false := rgE _ _
def c59_7 : EC := .sq c59_6 .rt
@[simp] theorem c59_7e : Sq c59_7 c59_6 .rt := sqE _ _
def c59_8 : EC := .cd (t 16) c59_7 .skip
@[simp] theorem c59_8e : Cd c59_8 (t 16) c59_7 .skip := cdE _ _ _
def c59_9 : EC := .sq c59_5 c59_8
@[simp] theorem c59_9e : Sq c59_9 c59_5 c59_8 := sqE _ _
def c59_10 : EC := .sq c59_4 c59_9
@[simp] theorem c59_10e : Sq c59_10 c59_4 c59_9 := sqE _ _
def c59_11 : EC := .bk 1 c59_10
@[simp] theorem c59_11e : Bk c59_11 1 c59_10 := bkE _ _
@[simp] def c59_12l : List EO := [o 18 (.bin .add) [t 8, i 1],
 m 8 18]
def c59_12 : EC := .rg c59_12l false
@[simp] theorem c59_12e : Rg c59_12 c59_12l false := rgE _ _
def c59_13 : EC := .sq c59_11 c59_12
@[simp] theorem c59_13e : Sq c59_13 c59_11 c59_12 := sqE _ _
def c59_14 : EC := .sq c59_3 c59_13
@[simp] theorem c59_14e : Sq c59_14 c59_3 c59_13 := sqE _ _
def c59_15 : EC := .sq c59_2 c59_14
@[simp] theorem c59_15e : Sq c59_15 c59_2 c59_14 := sqE _ _
def c59_16 : EC := .bk 0 (.lp c59_15)
@[simp] theorem c59_16e : Bk c59_16 0 (.lp c59_15) := bkE _ _
def c59_17 : EC := .sq c59_1 c59_16
@[simp] theorem c59_17e : Sq c59_17 c59_1 c59_16 := sqE _ _
@[simp] def c59_18l : List EO := [o 4 .mv [i (-1)]]
def c59_18 : EC := .rg c59_18l false
@[simp] theorem c59_18e : Rg c59_18 c59_18l false := rgE _ _
def c59_19 : EC := .sq c59_18 .rt
@[simp] theorem c59_19e : Sq c59_19 c59_18 .rt := sqE _ _
def c59_20 : EC := .sq c59_17 c59_19
@[simp] theorem c59_20e : Sq c59_20 c59_17 c59_19 := sqE _ _
def c59_21 : EC := .sq c59_0 c59_20
@[simp] theorem c59_21e : Sq c59_21 c59_0 c59_20 := sqE _ _
def c_slices_IndexFunc___int_int__59 : EC := c59_21
theorem k_59 : ecF Try.prog 59 = some (19, c_slices_IndexFunc___int_int__59, [.tm 4]) := by kernel_rfl

/-- tallystone/tallystoneref10.Currency -/
@[simp] def c60_0l : List EO := [o 2 .mv [b false]]
def c60_0 : EC := .rg c60_0l false
@[simp] theorem c60_0e : Rg c60_0 c60_0l false := rgE _ _
@[simp] def c60_1l : List EO := [o 3 .mv [i 0]]
def c60_1 : EC := .rg c60_1l false
@[simp] theorem c60_1e : Rg c60_1 c60_1l false := rgE _ _
@[simp] def c60_2l : List EO := [m 4 3,
 m 5 0,
 o 6 .lenS [t 5],
 o 7 (.bin .lss) [t 4, t 6]]
def c60_2 : EC := .rg c60_2l false
@[simp] theorem c60_2e : Rg c60_2 c60_2l false := rgE _ _
def c60_3 : EC := .cd (t 7) .skip (.ex 0)
@[simp] theorem c60_3e : Cd c60_3 (t 7) .skip (.ex 0) := cdE _ _ _
def c60_4 : EC := .sq c60_2 c60_3
@[simp] theorem c60_4e : Sq c60_4 c60_2 c60_3 := sqE _ _
@[simp] def c60_5l : List EO := [m 10 0,
 m 11 3,
 o 12 .ixS [t 10, t 11],
 o 13 (.bin .lss) [t 12, c (.t (.int .u8 65))],
 m 14 13,
 n 15 14 .mv [t 0],
 n 16 14 .mv [t 3],
 n 17 14 .ixS [t 15, t 16],
 n 18 14 (.bin .gtr) [t 17, c (.t (.int .u8 90))],
 o 19 .pick [t 14, b true, t 18]]
def c60_5 : EC := .rg c60_5l false
@[simp] theorem c60_5e : Rg c60_5 c60_5l false := rgE _ _
@[simp] def c60_6l : List EO := [o 2 .mv [b false]]
def c60_6 : EC := .rg c60_6l false
@[simp] theorem c60_6e : Rg c60_6 c60_6l false := rgE _ _
def c60_7 : EC := .sq c60_6 .rt
@[simp] theorem c60_7e : Sq c60_7 c60_6 .rt := sqE _ _
def c60_8 : EC := .cd (t 19) c60_7 .skip
@[simp] theorem c60_8e : Cd c60_8 (t 19) c60_7 .skip := cdE _ _ _
def c60_9 : EC := .sq c60_5 c60_8
@[simp] theorem c60_9e : Sq c60_9 c60_5 c60_8 := sqE _ _
def c60_10 : EC := .bk 1 c60_9
@[simp] theorem c60_10e : Bk c60_10 1 c60_9 := bkE _ _
@[simp] def c60_11l : List EO := [m 8 3,
 o 9 (.bin .add) [t 8, i 1],
 m 3 9]
def c60_11 : EC := .rg c60_11l false
@[simp] theorem c60_11e : Rg c60_11 c60_11l false := rgE _ _
def c60_12 : EC := .sq c60_10 c60_11
@[simp] theorem c60_12e : Sq c60_12 c60_10 c60_11 := sqE _ _
def c60_13 : EC := .sq c60_4 c60_12
@[simp] theorem c60_13e : Sq c60_13 c60_4 c60_12 := sqE _ _
def c60_14 : EC := .bk 0 (.lp c60_13)
@[simp] theorem c60_14e : Bk c60_14 0 (.lp c60_13) := bkE _ _
def c60_15 : EC := .sq c60_1 c60_14
@[simp] theorem c60_15e : Sq c60_15 c60_1 c60_14 := sqE _ _
@[simp] def c60_16l : List EO := [m 20 0,
 o 21 .lenS [t 20],
 o 22 (.bin .eql) [t 21, i 3],
 m 2 22]
def c60_16 : EC := .rg c60_16l false
@[simp] theorem c60_16e : Rg c60_16 c60_16l false := rgE _ _
def c60_17 : EC := .sq c60_16 .rt
@[simp] theorem c60_17e : Sq c60_17 c60_16 .rt := sqE _ _
def c60_18 : EC := .sq c60_15 c60_17
@[simp] theorem c60_18e : Sq c60_18 c60_15 c60_17 := sqE _ _
def c60_19 : EC := .sq c60_0 c60_18
@[simp] theorem c60_19e : Sq c60_19 c60_0 c60_18 := sqE _ _
def c_tallystoneref10_Currency_60 : EC := c60_19
theorem k_60 : ecF Try.prog 60 = some (23, c_tallystoneref10_Currency_60, [.tm 2]) := by kernel_rfl

/-- tallystone/tallystoneref07.Valid -/
@[simp] def c61_0l : List EO := [o 1 .box [t 0],
 o 2 .mv [b false]]
def c61_0 : EC := .rg c61_0l false
@[simp] theorem c61_0e : Rg c61_0 c61_0l false := rgE _ _
@[simp] def c61_1l : List EO := [o 5 (.faddr 2) [t 1],
 o 6 (.load 1 false) [t 5],
 o 7 (.bin .lss) [t 6, i 1],
 m 8 7,
 n 9 8 (.faddr 2) [t 1],
 n 10 8 (.load 1 false) [t 9],
 n 11 8 (.bin .gtr) [t 10, i 120],
 o 12 .pick [t 8, b true, t 11]]
def c61_1 : EC := .rg c61_1l false
@[simp] theorem c61_1e : Rg c61_1 c61_1l false := rgE _ _
@[simp] def c61_2l : List EO := [o 2 .mv [b false]]
def c61_2 : EC := .rg c61_2l false
@[simp] theorem c61_2e : Rg c61_2 c61_2l false := rgE _ _
def c61_3 : EC := .sq c61_2 .rt
@[simp] theorem c61_3e : Sq c61_3 c61_2 .rt := sqE _ _
def c61_4 : EC := .cd (t 12) c61_3 .skip
@[simp] theorem c61_4e : Cd c61_4 (t 12) c61_3 .skip := cdE _ _ _
def c61_5 : EC := .sq c61_1 c61_4
@[simp] theorem c61_5e : Sq c61_5 c61_1 c61_4 := sqE _ _
@[simp] def c61_6l : List EO := [o 14 (.load 3 true) [t 1],
 o 15 (.faddr 2) [t 1],
 o 16 (.load 1 false) [t 15],
 o 17 (.bin .sub) [t 16, i 1],
 o 18 (.call 46) [t 14, t 17],
 m 13 18,
 o 19 (.ext 0) [t 13],
 o 20 (.ext 1) [t 13],
 m 3 19,
 m 4 20]
def c61_6 : EC := .rg c61_6l false
@[simp] theorem c61_6e : Rg c61_6 c61_6l false := rgE _ _
@[simp] def c61_7l : List EO := [m 21 4,
 o 22 (.bin .eql) [t 21, i 0],
 m 2 22]
def c61_7 : EC := .rg c61_7l false
@[simp] theorem c61_7e : Rg c61_7 c61_7l false := rgE _ _
def c61_8 : EC := .sq c61_7 .rt
@[simp] theorem c61_8e : Sq c61_8 c61_7 .rt := sqE _ _
def c61_9 : EC := .sq c61_6 c61_8
@[simp] theorem c61_9e : Sq c61_9 c61_6 c61_8 := sqE _ _
def c61_10 : EC := .sq c61_5 c61_9
@[simp] theorem c61_10e : Sq c61_10 c61_5 c61_9 := sqE _ _
def c61_11 : EC := .sq c61_0 c61_10
@[simp] theorem c61_11e : Sq c61_11 c61_0 c61_10 := sqE _ _
def c_tallystoneref07_Valid_61 : EC := c61_11
theorem k_61 : ecF Try.prog 61 = some (23, c_tallystoneref07_Valid_61, [.tm 2]) := by kernel_rfl

/-- tallystone/tallystoneref08.Valid -/
@[simp] def c62_0l : List EO := [o 4 .mv [b false]]
def c62_0 : EC := .rg c62_0l false
@[simp] theorem c62_0e : Rg c62_0 c62_0l false := rgE _ _
@[simp] def c62_1l : List EO := [m 6 0,
 o 7 .lenL [t 6],
 o 8 (.bin .gtr) [t 7, i 200]]
def c62_1 : EC := .rg c62_1l false
@[simp] theorem c62_1e : Rg c62_1 c62_1l false := rgE _ _
@[simp] def c62_2l : List EO := [o 4 .mv [b false]]
def c62_2 : EC := .rg c62_2l false
@[simp] theorem c62_2e : Rg c62_2 c62_2l false := rgE _ _
def c62_3 : EC := .sq c62_2 .rt
@[simp] theorem c62_3e : Sq c62_3 c62_2 .rt := sqE _ _
def c62_4 : EC := .cd (t 8) c62_3 .skip
@[simp] theorem c62_4e : Cd c62_4 (t 8) c62_3 .skip := cdE _ _ _
def c62_5 : EC := .sq c62_1 c62_4
@[simp] theorem c62_5e : Sq c62_5 c62_1 c62_4 := sqE _ _
@[simp] def c62_6l : List EO := [o 5 .mv [i 0]]
def c62_6 : EC := .rg c62_6l false
@[simp] theorem c62_6e : Rg c62_6 c62_6l false := rgE _ _
@[simp] def c62_7l : List EO := [m 9 5,
 m 10 0,
 o 11 .lenL [t 10],
 o 12 (.bin .lss) [t 9, t 11]]
def c62_7 : EC := .rg c62_7l false
@[simp] theorem c62_7e : Rg c62_7 c62_7l false := rgE _ _
def c62_8 : EC := .cd (t 12) .skip (.ex 0)
@[simp] theorem c62_8e : Cd c62_8 (t 12) .skip (.ex 0) := cdE _ _ _
def c62_9 : EC := .sq c62_7 c62_8
@[simp] theorem c62_9e : Sq c62_9 c62_7 c62_8 := sqE _ _
@[simp] def c62_10l : List EO := [m 15 0,
 m 16 0,
 m 17 5,
 o 18 (.iaS 4) [t 16, t 17],
 o 19 (.load 4 true) [t 18],
 m 20 1,
 o 21 (.call 80) [t 15, t 19, t 20],
 o 22 (.un .not) [t 21],
 m 23 22,
 n 24 23 .mv [t 5],
 n 25 23 (.bin .gtr) [t 24, i 0],
 n 26 23 .mv [t 25],
 y 27 26 .mv [t 0],
 y 28 26 .mv [t 5],
 y 29 26 (.iaS 4) [t 27, t 28],
 y 30 26 (.faddr 0) [t 29],
 y 31 26 (.load 1 false) [t 30],
 y 32 26 .mv [t 0],
 y 33 26 .mv [t 5],
 y 34 26 (.bin .sub) [t 33, i 1],
 y 35 26 (.iaS 4) [t 32, t 34],
 y 36 26 (.faddr 0) [t 35],
 y 37 26 (.load 1 false) [t 36],
 y 38 26 (.bin .leq) [t 31, t 37],
 n 39 23 .pick [t 26, t 38, b false],
 o 40 .pick [t 23, b true, t 39],
 m 41 40,
 n 42 41 .mv [t 0],
 n 43 41 .mv [t 0],
 n 44 41 .mv [t 5],
 n 45 41 (.iaS 4) [t 43, t 44],
 n 46 41 (.faddr 0) [t 45],
 n 47 41 (.load 1 false) [t 46],
 n 48 41 (.call 81) [t 42, t 47],
 n 49 41 .lenL [t 48],
 n 50 41 .mv [t 0],
 n 51 41 .lenL [t 50],
 n 52 41 (.bin .gtr) [t 49, t 51],
 o 53 .pick [t 41, b true, t 52]]
def c62_10 : EC := .rg c62_10l true
@[simp] theorem c62_10e : Rg c62_10 c62_10l true := rgE _ _
@[simp] def c62_11l : List EO := [o 4 .mv [b false]]
def c62_11 : EC := .rg c62_11l false
@[simp] theorem c62_11e : Rg c62_11 c62_11l false := rgE _ _
def c62_12 : EC := .sq c62_11 .rt
@[simp] theorem c62_12e : Sq c62_12 c62_11 .rt := sqE _ _
def c62_13 : EC := .cd (t 53) c62_12 .skip
@[simp] theorem c62_13e : Cd c62_13 (t 53) c62_12 .skip := cdE _ _ _
def c62_14 : EC := .sq c62_10 c62_13
@[simp] theorem c62_14e : Sq c62_14 c62_10 c62_13 := sqE _ _
def c62_15 : EC := .bk 1 c62_14
@[simp] theorem c62_15e : Bk c62_15 1 c62_14 := bkE _ _
@[simp] def c62_16l : List EO := [m 13 5,
 o 14 (.bin .add) [t 13, i 1],
 m 5 14]
def c62_16 : EC := .rg c62_16l false
@[simp] theorem c62_16e : Rg c62_16 c62_16l false := rgE _ _
def c62_17 : EC := .sq c62_15 c62_16
@[simp] theorem c62_17e : Sq c62_17 c62_15 c62_16 := sqE _ _
def c62_18 : EC := .sq c62_9 c62_17
@[simp] theorem c62_18e : Sq c62_18 c62_9 c62_17 := sqE _ _
def c62_19 : EC := .bk 0 (.lp c62_18)
@[simp] theorem c62_19e : Bk c62_19 0 (.lp c62_18) := bkE _ _
def c62_20 : EC := .sq c62_6 c62_19
@[simp] theorem c62_20e : Sq c62_20 c62_6 c62_19 := sqE _ _
@[simp] def c62_21l : List EO := [o 4 .mv [b true]]
def c62_21 : EC := .rg c62_21l false
@[simp] theorem c62_21e : Rg c62_21 c62_21l false := rgE _ _
def c62_22 : EC := .sq c62_21 .rt
@[simp] theorem c62_22e : Sq c62_22 c62_21 .rt := sqE _ _
def c62_23 : EC := .sq c62_20 c62_22
@[simp] theorem c62_23e : Sq c62_23 c62_20 c62_22 := sqE _ _
def c62_24 : EC := .sq c62_5 c62_23
@[simp] theorem c62_24e : Sq c62_24 c62_5 c62_23 := sqE _ _
def c62_25 : EC := .sq c62_0 c62_24
@[simp] theorem c62_25e : Sq c62_25 c62_0 c62_24 := sqE _ _
def c_tallystoneref08_Valid_62 : EC := c62_25
theorem k_62 : ecF Try.prog 62 = some (54, c_tallystoneref08_Valid_62, [.tm 4]) := by kernel_rfl

/-- tallystone/tallystoneref10.basis -/
@[simp] def c63_0l : List EO := [o 1 .box [t 0],
 o 2 .mv [b false]]
def c63_0 : EC := .rg c63_0l false
@[simp] theorem c63_0e : Rg c63_0 c63_0l false := rgE _ _
@[simp] def c63_1l : List EO := [o 3 (.faddr 1) [t 1],
 o 4 (.load 1 false) [t 3]]
def c63_1 : EC := .rg c63_1l false
@[simp] theorem c63_1e : Rg c63_1 c63_1l false := rgE _ _
@[simp] def c63_2l : List EO := [o 6 (.bin .eql) [t 4, i 1],
 m 5 6]
def c63_2 : EC := .rg c63_2l false
@[simp] theorem c63_2e : Rg c63_2 c63_2l false := rgE _ _
@[simp] def c63_3l : List EO := [o 7 (.bin .eql) [t 4, i 2],
 m 5 7]
def c63_3 : EC := .rg c63_3l false
@[simp] theorem c63_3e : Rg c63_3 c63_3l false := rgE _ _
def c63_4 : EC := .cd (t 5) .skip c63_3
@[simp] theorem c63_4e : Cd c63_4 (t 5) .skip c63_3 := cdE _ _ _
def c63_5 : EC := .sq c63_2 c63_4
@[simp] theorem c63_5e : Sq c63_5 c63_2 c63_4 := sqE _ _
@[simp] def c63_6l : List EO := [o 8 (.faddr 2) [t 1],
 o 9 (.load 1 false) [t 8],
 o 10 (.bin .eql) [t 9, i 1],
 m 11 10,
 n 12 11 (.faddr 2) [t 1],
 n 13 11 (.load 1 false) [t 12],
 n 14 11 (.bin .eql) [t 13, i 3],
 o 15 .pick [t 11, b true, t 14],
 m 2 15]
def c63_6 : EC := .rg c63_6l false
@[simp] theorem c63_6e : Rg c63_6 c63_6l false := rgE _ _
def c63_7 : EC := .sq c63_6 .rt
@[simp] theorem c63_7e : Sq c63_7 c63_6 .rt := sqE _ _
@[simp] def c63_8l : List EO := [o 17 (.bin .eql) [t 4, i 3],
 m 16 17]
def c63_8 : EC := .rg c63_8l false
@[simp] theorem c63_8e : Rg c63_8 c63_8l false := rgE _ _
@[simp] def c63_9l : List EO := [o 18 (.faddr 2) [t 1],
 o 19 (.load 1 false) [t 18],
 o 20 (.bin .eql) [t 19, i 3],
 m 2 20]
def c63_9 : EC := .rg c63_9l false
@[simp] theorem c63_9e : Rg c63_9 c63_9l false := rgE _ _
def c63_10 : EC := .sq c63_9 .rt
@[simp] theorem c63_10e : Sq c63_10 c63_9 .rt := sqE _ _
def c63_11 : EC := .cd (t 16) c63_10 .skip
@[simp] theorem c63_11e : Cd c63_11 (t 16) c63_10 .skip := cdE _ _ _
def c63_12 : EC := .sq c63_8 c63_11
@[simp] theorem c63_12e : Sq c63_12 c63_8 c63_11 := sqE _ _
def c63_13 : EC := .cd (t 5) c63_7 c63_12
@[simp] theorem c63_13e : Cd c63_13 (t 5) c63_7 c63_12 := cdE _ _ _
def c63_14 : EC := .sq c63_5 c63_13
@[simp] theorem c63_14e : Sq c63_14 c63_5 c63_13 := sqE _ _
def c63_15 : EC := .bk 0 c63_14
@[simp] theorem c63_15e : Bk c63_15 0 c63_14 := bkE _ _
def c63_16 : EC := .sq c63_1 c63_15
@[simp] theorem c63_16e : Sq c63_16 c63_1 c63_15 := sqE _ _
@[simp] def c63_17l : List EO := [o 21 (.faddr 2) [t 1],
 o 22 (.load 1 false) [t 21],
 o 23 (.bin .eql) [t 22, i 2],
 m 2 23]
def c63_17 : EC := .rg c63_17l false
@[simp] theorem c63_17e : Rg c63_17 c63_17l false := rgE _ _
def c63_18 : EC := .sq c63_17 .rt
@[simp] theorem c63_18e : Sq c63_18 c63_17 .rt := sqE _ _
def c63_19 : EC := .sq c63_16 c63_18
@[simp] theorem c63_19e : Sq c63_19 c63_16 c63_18 := sqE _ _
def c63_20 : EC := .sq c63_0 c63_19
@[simp] theorem c63_20e : Sq c63_20 c63_0 c63_19 := sqE _ _
def c_tallystoneref10_basis_63 : EC := c63_20
theorem k_63 : ecF Try.prog 63 = some (24, c_tallystoneref10_basis_63, [.tm 2]) := by kernel_rfl

/-- tallystone/tallystoneref10.Roles -/
@[simp] def c64_0l : List EO := [o 1 .box [t 0],
 o 2 .mv [c (.snil)]]
def c64_0 : EC := .rg c64_0l false
@[simp] theorem c64_0e : Rg c64_0 c64_0l false := rgE _ _
@[simp] def c64_1l : List EO := [o 3 (.faddr 0) [t 1],
 o 4 (.load 1 false) [t 3],
 o 5 (.build [.t (.str []), .t (.int .i64 0), .t (.int .i64 0), .t (.int .i64 0), .t (.bool false)] [(0, 1), (1, 1), (2, 1), (3, 1), (4, 1)]) [c (.t (.str [105, 110, 118, 101, 115, 116, 109, 101, 110, 116])), t 4, i 1, i 3, b true],
 o 6 (.faddr 1) [t 1],
 o 7 (.load 1 false) [t 6],
 o 8 (.build [.t (.str []), .t (.int .i64 0), .t (.int .i64 0), .t (.int .i64 0), .t (.bool false)] [(0, 1), (1, 1), (2, 1), (3, 1), (4, 1)]) [c (.t (.str [103, 111, 111, 100, 119, 105, 108, 108])), t 7, i 1, i 3, b false],
 o 9 (.faddr 2) [t 1],
 o 10 (.load 1 false) [t 9],
 o 11 (.build [.t (.str []), .t (.int .i64 0), .t (.int .i64 0), .t (.int .i64 0), .t (.bool false)] [(0, 1), (1, 1), (2, 1), (3, 1), (4, 1)]) [c (.t (.str [97, 115, 115, 111, 99, 105, 97, 116, 101, 115])), t 10, i 1, i 3, b false],
 o 12 (.faddr 3) [t 1],
 o 13 (.load 1 false) [t 12],
 o 14 (.build [.t (.str []), .t (.int .i64 0), .t (.int .i64 0), .t (.int .i64 0), .t (.bool false)] [(0, 1), (1, 1), (2, 1), (3, 1), (4, 1)]) [c (.t (.str [105, 110, 118, 101, 110, 116, 111, 114, 121])), t 13, i 1, i 1, b true],
 o 15 (.faddr 4) [t 1],
 o 16 (.load 1 false) [t 15],
 o 17 (.build [.t (.str []), .t (.int .i64 0), .t (.int .i64 0), .t (.int .i64 0), .t (.bool false)] [(0, 1), (1, 1), (2, 1), (3, 1), (4, 1)]) [c (.t (.str [114, 101, 115, 101, 114, 118, 101])), t 16, i 3, i 3, b false],
 o 18 (.faddr 5) [t 1],
 o 19 (.load 1 false) [t 18],
 o 20 (.build [.t (.str []), .t (.int .i64 0), .t (.int .i64 0), .t (.int .i64 0), .t (.bool false)] [(0, 1), (1, 1), (2, 1), (3, 1), (4, 1)]) [c (.t (.str [109, 105, 110, 111, 114, 105, 116, 121])), t 19, i 3, i 3, b false],
 o 21 (.faddr 6) [t 1],
 o 22 (.load 1 false) [t 21],
 o 23 (.build [.t (.str []), .t (.int .i64 0), .t (.int .i64 0), .t (.int .i64 0), .t (.bool false)] [(0, 1), (1, 1), (2, 1), (3, 1), (4, 1)]) [c (.t (.str [114, 101, 116, 97, 105, 110, 101, 100])), t 22, i 3, i 3, b true],
 o 24 (.faddr 7) [t 1],
 o 25 (.load 1 false) [t 24],
 o 26 (.build [.t (.str []), .t (.int .i64 0), .t (.int .i64 0), .t (.int .i64 0), .t (.bool false)] [(0, 1), (1, 1), (2, 1), (3, 1), (4, 1)]) [c (.t (.str [97, 99, 113, 117, 105, 114, 101, 100])), t 25, i 3, i 3, b false],
 o 27 (.faddr 8) [t 1],
 o 28 (.load 1 false) [t 27],
 o 29 (.build [.t (.str []), .t (.int .i64 0), .t (.int .i64 0), .t (.int .i64 0), .t (.bool false)] [(0, 1), (1, 1), (2, 1), (3, 1), (4, 1)]) [c (.t (.str [111, 119, 110, 101, 114, 115])), t 28, i 3, i 3, b false],
 o 30 (.faddr 9) [t 1],
 o 31 (.load 1 false) [t 30],
 o 32 (.build [.t (.str []), .t (.int .i64 0), .t (.int .i64 0), .t (.int .i64 0), .t (.bool false)] [(0, 1), (1, 1), (2, 1), (3, 1), (4, 1)]) [c (.t (.str [100, 105, 115, 112, 111, 115, 97, 108])), t 31, i 4, i 2, b false],
 o 33 (.faddr 10) [t 1],
 o 34 (.load 1 false) [t 33],
 o 35 (.build [.t (.str []), .t (.int .i64 0), .t (.int .i64 0), .t (.int .i64 0), .t (.bool false)] [(0, 1), (1, 1), (2, 1), (3, 1), (4, 1)]) [c (.t (.str [97, 115, 115, 111, 99, 105, 97, 116, 101, 80, 114, 111, 102, 105, 116])), t 34, i 4, i 2, b false],
 o 36 (.faddr 11) [t 1],
 o 37 (.load 1 false) [t 36],
 o 38 (.build [.t (.str []), .t (.int .i64 0), .t (.int .i64 0), .t (.int .i64 0), .t (.bool false)] [(0, 1), (1, 1), (2, 1), (3, 1), (4, 1)]) [c (.t (.str [100, 105, 118, 105, 100, 101, 110, 100, 115])), t 37, i 4, i 2, b true],
 o 39 (.faddr 12) [t 1],
 o 40 (.load 1 false) [t 39],
 o 41 (.build [.t (.str []), .t (.int .i64 0), .t (.int .i64 0), .t (.int .i64 0), .t (.bool false)] [(0, 1), (1, 1), (2, 1), (3, 1), (4, 1)]) [c (.t (.str [109, 105, 110, 111, 114, 105, 116, 121, 80, 114, 111, 102, 105, 116])), t 40, i 5, i 2, b false],
 o 42 (.faddr 13) [t 1],
 o 43 (.load 1 false) [t 42],
 o 44 (.build [.t (.str []), .t (.int .i64 0), .t (.int .i64 0), .t (.int .i64 0), .t (.bool false)] [(0, 1), (1, 1), (2, 1), (3, 1), (4, 1)]) [c (.t (.str [100, 105, 102, 102, 101, 114, 101, 110, 99, 101])), t 43, i 5, i 2, b false],
 o 45 (.faddr 14) [t 1],
 o 46 (.load 1 false) [t 45],
 o 47 (.build [.t (.str []), .t (.int .i64 0), .t (.int .i64 0), .t (.int .i64 0), .t (.bool false)] [(0, 1), (1, 1), (2, 1), (3, 1), (4, 1)]) [c (.t (.str [109, 97, 114, 103, 105, 110])), t 46, i 5, i 2, b false],
 o 48 (.bsl 5) [t 5, t 8, t 11, t 14, t 17, t 20, t 23, t 26, t 29, t 32, t 35, t 38, t 41, t 44, t 47],
 m 2 48]
def c64_1 : EC := .rg c64_1l false
@[simp] theorem c64_1e : Rg c64_1 c64_1l false := rgE _ _
def c64_2 : EC := .sq c64_1 .rt
@[simp] theorem c64_2e : Sq c64_2 c64_1 .rt := sqE _ _
def c64_3 : EC := .sq c64_0 c64_2
@[simp] theorem c64_3e : Sq c64_3 c64_0 c64_2 := sqE _ _
def c_tallystoneref10_Roles_64 : EC := c64_3
theorem k_64 : ecF Try.prog 64 = some (49, c_tallystoneref10_Roles_64, [.tm 2]) := by kernel_rfl

/-- tallystone/tallystoneref10.Name -/
@[simp] def c65_0l : List EO := [o 2 .mv [b false]]
def c65_0 : EC := .rg c65_0l false
@[simp] theorem c65_0e : Rg c65_0 c65_0l false := rgE _ _
@[simp] def c65_1l : List EO := [o 3 .mv [i 0]]
def c65_1 : EC := .rg c65_1l false
@[simp] theorem c65_1e : Rg c65_1 c65_1l false := rgE _ _
@[simp] def c65_2l : List EO := [m 4 3,
 m 5 0,
 o 6 .lenS [t 5],
 o 7 (.bin .lss) [t 4, t 6]]
def c65_2 : EC := .rg c65_2l false
@[simp] theorem c65_2e : Rg c65_2 c65_2l false := rgE _ _
def c65_3 : EC := .cd (t 7) .skip (.ex 0)
@[simp] theorem c65_3e : Cd c65_3 (t 7) .skip (.ex 0) := cdE _ _ _
def c65_4 : EC := .sq c65_2 c65_3
@[simp] theorem c65_4e : Sq c65_4 c65_2 c65_3 := sqE _ _
@[simp] def c65_5l : List EO := [m 10 0,
 m 11 3,
 o 12 .ixS [t 10, t 11],
 o 13 (.call 82) [t 12],
 o 14 (.un .not) [t 13],
 m 15 14,
 y 16 15 .mv [t 3],
 y 17 15 (.bin .eql) [t 16, i 0],
 y 18 15 .mv [t 17],
 n 19 18 .mv [t 0],
 n 20 18 .mv [t 3],
 n 21 18 .ixS [t 19, t 20],
 n 22 18 (.bin .neq) [t 21, c (.t (.int .u8 45))],
 n 23 18 .mv [t 22],
 y 24 23 .mv [t 0],
 y 25 23 .mv [t 3],
 y 26 23 .ixS [t 24, t 25],
 y 27 23 (.bin .lss) [t 26, c (.t (.int .u8 48))],
 y 28 23 .mv [t 27],
 n 29 28 .mv [t 0],
 n 30 28 .mv [t 3],
 n 31 28 .ixS [t 29, t 30],
 n 32 28 (.bin .gtr) [t 31, c (.t (.int .u8 57))],
 y 33 23 .pick [t 28, b true, t 32],
 n 34 18 .pick [t 23, t 33, b false],
 y 35 15 .pick [t 18, b true, t 34],
 o 36 .pick [t 15, t 35, b false]]
def c65_5 : EC := .rg c65_5l false
@[simp] theorem c65_5e : Rg c65_5 c65_5l false := rgE _ _
@[simp] def c65_6l : List EO := [o 2 .mv [b false]]
def c65_6 : EC := .rg c65_6l false
@[simp] theorem c65_6e : Rg c65_6 c65_6l false := rgE _ _
def c65_7 : EC := .sq c65_6 .rt
@[simp] theorem c65_7e : Sq c65_7 c65_6 .rt := sqE _ _
def c65_8 : EC := .cd (t 36) c65_7 .skip
@[simp] theorem c65_8e : Cd c65_8 (t 36) c65_7 .skip := cdE _ _ _
def c65_9 : EC := .sq c65_5 c65_8
@[simp] theorem c65_9e : Sq c65_9 c65_5 c65_8 := sqE _ _
def c65_10 : EC := .bk 1 c65_9
@[simp] theorem c65_10e : Bk c65_10 1 c65_9 := bkE _ _
@[simp] def c65_11l : List EO := [m 8 3,
 o 9 (.bin .add) [t 8, i 1],
 m 3 9]
def c65_11 : EC := .rg c65_11l false
@[simp] theorem c65_11e : Rg c65_11 c65_11l false := rgE _ _
def c65_12 : EC := .sq c65_10 c65_11
@[simp] theorem c65_12e : Sq c65_12 c65_10 c65_11 := sqE _ _
def c65_13 : EC := .sq c65_4 c65_12
@[simp] theorem c65_13e : Sq c65_13 c65_4 c65_12 := sqE _ _
def c65_14 : EC := .bk 0 (.lp c65_13)
@[simp] theorem c65_14e : Bk c65_14 0 (.lp c65_13) := bkE _ _
def c65_15 : EC := .sq c65_1 c65_14
@[simp] theorem c65_15e : Sq c65_15 c65_1 c65_14 := sqE _ _
@[simp] def c65_16l : List EO := [m 37 0,
 o 38 .lenS [t 37],
 o 39 (.bin .geq) [t 38, i 1],
 m 40 39,
 y 41 40 .mv [t 0],
 y 42 40 .lenS [t 41],
 y 43 40 (.bin .leq) [t 42, i 16],
 o 44 .pick [t 40, t 43, b false],
 m 2 44]
def c65_16 : EC := .rg c65_16l false
@[simp] theorem c65_16e : Rg c65_16 c65_16l false := rgE _ _
def c65_17 : EC := .sq c65_16 .rt
@[simp] theorem c65_17e : Sq c65_17 c65_16 .rt := sqE _ _
def c65_18 : EC := .sq c65_15 c65_17
@[simp] theorem c65_18e : Sq c65_18 c65_15 c65_17 := sqE _ _
def c65_19 : EC := .sq c65_0 c65_18
@[simp] theorem c65_19e : Sq c65_19 c65_0 c65_18 := sqE _ _
def c_tallystoneref10_Name_65 : EC := c65_19
theorem k_65 : ecF Try.prog 65 = some (45, c_tallystoneref10_Name_65, [.tm 2]) := by kernel_rfl
end Go.Proofs.Ythfnaaeddlnckaa
