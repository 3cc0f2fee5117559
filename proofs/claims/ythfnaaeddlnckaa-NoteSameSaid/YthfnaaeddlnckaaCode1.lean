/- The code of the functions of this seat, as the engine reads it; printed by program out of the translation, checked by the kernel. -/
import Derived.Test.YthfnaaeddlnckaaEd
import Derived.Test.YthfnaaeddlnckaaProg
set_option linter.unusedSimpArgs false
set_option linter.unusedVariables false
namespace Go.Proofs.Ythfnaaeddlnckaa
open Go.Proofs E E.Z
variable {P : Program} {nb nt : Nat} {Q : Ex → Fr → St → Prop} {a : Fr} {S : St}
/-- tallystone/tallystoneref52.All -/
@[simp] def c22_0l : List EO := [o 3 .box [t 0],
 o 4 .box [t 1],
 o 5 .box [t 2],
 o 6 .mv [c (.snil)],
 o 7 .mv [i 0]]
def c22_0 : EC := .rg c22_0l false
@[simp] theorem c22_0e : Rg c22_0 c22_0l false := rgE _ _
@[simp] def c22_1l : List EO := [o 12 (.load 21 true) [t 3],
 o 13 (.call 18) [t 12],
 o 14 (.un .not) [t 13]]
def c22_1 : EC := .rg c22_1l false
@[simp] theorem c22_1e : Rg c22_1 c22_1l false := rgE _ _
@[simp] def c22_2l : List EO := [o 6 .mv [c (.snil)],
 o 7 .mv [i 1]]
def c22_2 : EC := .rg c22_2l false
@[simp] theorem c22_2e : Rg c22_2 c22_2l false := rgE _ _
def c22_3 : EC := .sq c22_2 .rt
@[simp] theorem c22_3e : Sq c22_3 c22_2 .rt := sqE _ _
def c22_4 : EC := .cd (t 14) c22_3 .skip
@[simp] theorem c22_4e : Cd c22_4 (t 14) c22_3 .skip := cdE _ _ _
def c22_5 : EC := .sq c22_1 c22_4
@[simp] theorem c22_5e : Sq c22_5 c22_1 c22_4 := sqE _ _
@[simp] def c22_6l : List EO := [o 8 .mv [c (.snil)]]
def c22_6 : EC := .rg c22_6l false
@[simp] theorem c22_6e : Rg c22_6 c22_6l false := rgE _ _
@[simp] def c22_7l : List EO := [o 9 .mv [i 0]]
def c22_7 : EC := .rg c22_7l false
@[simp] theorem c22_7e : Rg c22_7 c22_7l false := rgE _ _
@[simp] def c22_8l : List EO := [m 15 9,
 o 16 (.faddr 4) [t 3],
 o 17 (.load 1 false) [t 16],
 o 18 .lenL [t 17],
 o 19 (.bin .lss) [t 15, t 18]]
def c22_8 : EC := .rg c22_8l false
@[simp] theorem c22_8e : Rg c22_8 c22_8l false := rgE _ _
def c22_9 : EC := .cd (t 19) .skip (.ex 0)
@[simp] theorem c22_9e : Cd c22_9 (t 19) .skip (.ex 0) := cdE _ _ _
def c22_10 : EC := .sq c22_8 c22_9
@[simp] theorem c22_10e : Sq c22_10 c22_8 c22_9 := sqE _ _
@[simp] def c22_11l : List EO := [o 23 (.load 21 true) [t 3],
 o 24 (.load 4 true) [t 4],
 o 25 (.load 4 true) [t 5],
 o 26 (.faddr 4) [t 3],
 o 27 (.load 1 false) [t 26],
 m 28 9,
 o 29 (.iaS 4) [t 27, t 28],
 o 30 (.faddr 0) [t 29],
 o 31 (.load 1 false) [t 30],
 o 32 (.call 15) [t 23, t 24, t 25, t 31],
 m 22 32,
 o 33 (.ext 0) [t 22],
 o 34 (.ext 1) [t 22],
 o 10 (.alloc [.t (.int .i64 0), .t (.int .i64 0), .t (.int .i64 0), .t (.int .i64 0), .t (.int .i64 0), .t (.int .i64 0), .t (.int .i64 0), .t (.int .i64 0), .t (.int .i64 0), .t (.int .i64 0), .t (.int .i64 0), .t (.int .i64 0), .t (.int .i64 0), .t (.int .i64 0), .t (.int .i64 0), .t (.int .i64 0)]) [],
 u (.store 16) [t 10, t 33],
 m 11 34]
def c22_11 : EC := .rg c22_11l true
@[simp] theorem c22_11e : Rg c22_11 c22_11l true := rgE _ _
@[simp] def c22_12l : List EO := [m 35 11,
 o 36 (.bin .neq) [t 35, i 0]]
def c22_12 : EC := .rg c22_12l false
@[simp] theorem c22_12e : Rg c22_12 c22_12l false := rgE _ _
@[simp] def c22_13l : List EO := [m 37 11,
 o 6 .mv [c (.snil)],
 m 7 37]
def c22_13 : EC := .rg c22_13l false
@[simp] theorem c22_13e : Rg c22_13 c22_13l false := rgE _ _
def c22_14 : EC := .sq c22_13 .rt
@[simp] theorem c22_14e : Sq c22_14 c22_13 .rt := sqE _ _
def c22_15 : EC := .cd (t 36) c22_14 .skip
@[simp] theorem c22_15e : Cd c22_15 (t 36) c22_14 .skip := cdE _ _ _
def c22_16 : EC := .sq c22_12 c22_15
@[simp] theorem c22_16e : Sq c22_16 c22_12 c22_15 := sqE _ _
@[simp] def c22_17l : List EO := [o 38 (.load 16 true) [t 10],
 o 39 (.faddr 4) [t 3],
 o 40 (.load 1 false) [t 39],
 m 41 9,
 o 42 (.iaS 4) [t 40, t 41],
 o 43 (.faddr 0) [t 42],
 o 44 (.load 1 false) [t 43],
 o 45 (.build [.t (.int .i64 0), .t (.int .i64 0), .t (.int .i64 0), .t (.int .i64 0), .t (.int .i64 0), .t (.int .i64 0), .t (.int .i64 0), .t (.int .i64 0), .t (.int .i64 0), .t (.int .i64 0), .t (.int .i64 0), .t (.int .i64 0), .t (.int .i64 0), .t (.int .i64 0), .t (.int .i64 0), .t (.int .i64 0)] [(0, 1)]) [t 44],
 o 46 (.eqv true true [1, 1, 1, 1, 1, 1, 1, 1, 1, 1, 1, 1, 1, 1, 1, 1]) [t 38, t 45]]
def c22_17 : EC := .rg c22_17l true
@[simp] theorem c22_17e : Rg c22_17 c22_17l true := rgE _ _
@[simp] def c22_18l : List EO := [m 47 8,
 o 48 (.load 16 true) [t 10],
 o 49 (.bsl 16) [t 48],
 o 50 (.app 47 16 128) [t 47, t 49],
 m 8 50]
def c22_18 : EC := .rg c22_18l false
@[simp] theorem c22_18e : Rg c22_18 c22_18l false := rgE _ _
def c22_19 : EC := .cd (t 46) c22_18 .skip
@[simp] theorem c22_19e : Cd c22_19 (t 46) c22_18 .skip := cdE _ _ _
def c22_20 : EC := .sq c22_17 c22_19
@[simp] theorem c22_20e : Sq c22_20 c22_17 c22_19 := sqE _ _
def c22_21 : EC := .sq c22_16 c22_20
@[simp] theorem c22_21e : Sq c22_21 c22_16 c22_20 := sqE _ _
def c22_22 : EC := .sq c22_11 c22_21
@[simp] theorem c22_22e : Sq c22_22 c22_11 c22_21 := sqE _ _
def c22_23 : EC := .bk 1 c22_22
@[simp] theorem c22_23e : Bk c22_23 1 c22_22 := bkE _ _
@[simp] def c22_24l : List EO := [m 20 9,
 o 21 (.bin .add) [t 20, i 1],
 m 9 21]
def c22_24 : EC := .rg c22_24l false
@[simp] theorem c22_24e : Rg c22_24 c22_24l false := rgE _ _
def c22_25 : EC := .sq c22_23 c22_24
@[simp] theorem c22_25e : Sq c22_25 c22_23 c22_24 := sqE _ _
def c22_26 : EC := .sq c22_10 c22_25
@[simp] theorem c22_26e : Sq c22_26 c22_10 c22_25 := sqE _ _
def c22_27 : EC := .bk 0 (.lp c22_26)
@[simp] theorem c22_27e : Bk c22_27 0 (.lp c22_26) := bkE _ _
def c22_28 : EC := .sq c22_7 c22_27
@[simp] theorem c22_28e : Sq c22_28 c22_7 c22_27 := sqE _ _
@[simp] def c22_29l : List EO := [m 51 8,
 m 6 51,
 o 7 .mv [i 0]]
def c22_29 : EC := .rg c22_29l false
@[simp] theorem c22_29e : Rg c22_29 c22_29l false := rgE _ _
def c22_30 : EC := .sq c22_29 .rt
@[simp] theorem c22_30e : Sq c22_30 c22_29 .rt := sqE _ _
def c22_31 : EC := .sq c22_28 c22_30
@[simp] theorem c22_31e : Sq c22_31 c22_28 c22_30 := sqE _ _
def c22_32 : EC := .sq c22_6 c22_31
@[simp] theorem c22_32e : Sq c22_32 c22_6 c22_31 := sqE _ _
def c22_33 : EC := .sq c22_5 c22_32
@[simp] theorem c22_33e : Sq c22_33 c22_5 c22_32 := sqE _ _
def c22_34 : EC := .sq c22_0 c22_33
@[simp] theorem c22_34e : Sq c22_34 c22_0 c22_33 := sqE _ _
def c_tallystoneref52_All_22 : EC := c22_34
theorem k_22 : ecF Try.prog 22 = some (52, c_tallystoneref52_All_22, [.tm 6, .tm 7]) := by kernel_rfl

/-- tallystone/tallystoneref52.All, with slices that grow in boxes -/
@[simp] def b22_0l : List EO := [o 3 .box [t 0],
 o 4 .box [t 1],
 o 5 .box [t 2],
 o 6 .mv [c (.snil)],
 o 7 .mv [i 0]]
def b22_0 : EC := .rg b22_0l false
@[simp] theorem b22_0e : Rg b22_0 b22_0l false := rgE _ _
@[simp] def b22_1l : List EO := [o 12 (.load 21 true) [t 3],
 o 13 (.call 18) [t 12],
 o 14 (.un .not) [t 13]]
def b22_1 : EC := .rg b22_1l false
@[simp] theorem b22_1e : Rg b22_1 b22_1l false := rgE _ _
@[simp] def b22_2l : List EO := [o 6 .mv [c (.snil)],
 o 7 .mv [i 1]]
def b22_2 : EC := .rg b22_2l false
@[simp] theorem b22_2e : Rg b22_2 b22_2l false := rgE _ _
def b22_3 : EC := .sq b22_2 .rt
@[simp] theorem b22_3e : Sq b22_3 b22_2 .rt := sqE _ _
def b22_4 : EC := .cd (t 14) b22_3 .skip
@[simp] theorem b22_4e : Cd b22_4 (t 14) b22_3 .skip := cdE _ _ _
def b22_5 : EC := .sq b22_1 b22_4
@[simp] theorem b22_5e : Sq b22_5 b22_1 b22_4 := sqE _ _
@[simp] def b22_6l : List EO := [o 8 .mv [c (.snil)]]
def b22_6 : EC := .rg b22_6l false
@[simp] theorem b22_6e : Rg b22_6 b22_6l false := rgE _ _
@[simp] def b22_7l : List EO := [o 9 .mv [i 0]]
def b22_7 : EC := .rg b22_7l false
@[simp] theorem b22_7e : Rg b22_7 b22_7l false := rgE _ _
@[simp] def b22_8l : List EO := [m 15 9,
 o 16 (.faddr 4) [t 3],
 o 17 (.load 1 false) [t 16],
 o 18 .lenL [t 17],
 o 19 (.bin .lss) [t 15, t 18]]
def b22_8 : EC := .rg b22_8l false
@[simp] theorem b22_8e : Rg b22_8 b22_8l false := rgE _ _
def b22_9 : EC := .cd (t 19) .skip (.ex 0)
@[simp] theorem b22_9e : Cd b22_9 (t 19) .skip (.ex 0) := cdE _ _ _
def b22_10 : EC := .sq b22_8 b22_9
@[simp] theorem b22_10e : Sq b22_10 b22_8 b22_9 := sqE _ _
@[simp] def b22_11l : List EO := [o 23 (.load 21 true) [t 3],
 o 24 (.load 4 true) [t 4],
 o 25 (.load 4 true) [t 5],
 o 26 (.faddr 4) [t 3],
 o 27 (.load 1 false) [t 26],
 m 28 9,
 o 29 (.iaS 4) [t 27, t 28],
 o 30 (.faddr 0) [t 29],
 o 31 (.load 1 false) [t 30],
 o 32 (.call 15) [t 23, t 24, t 25, t 31],
 m 22 32,
 o 33 (.ext 0) [t 22],
 o 34 (.ext 1) [t 22],
 o 10 (.alloc [.t (.int .i64 0), .t (.int .i64 0), .t (.int .i64 0), .t (.int .i64 0), .t (.int .i64 0), .t (.int .i64 0), .t (.int .i64 0), .t (.int .i64 0), .t (.int .i64 0), .t (.int .i64 0), .t (.int .i64 0), .t (.int .i64 0), .t (.int .i64 0), .t (.int .i64 0), .t (.int .i64 0), .t (.int .i64 0)]) [],
 u (.store 16) [t 10, t 33],
 m 11 34]
def b22_11 : EC := .rg b22_11l true
@[simp] theorem b22_11e : Rg b22_11 b22_11l true := rgE _ _
@[simp] def b22_12l : List EO := [m 35 11,
 o 36 (.bin .neq) [t 35, i 0]]
def b22_12 : EC := .rg b22_12l false
@[simp] theorem b22_12e : Rg b22_12 b22_12l false := rgE _ _
@[simp] def b22_13l : List EO := [m 37 11,
 o 6 .mv [c (.snil)],
 m 7 37]
def b22_13 : EC := .rg b22_13l false
@[simp] theorem b22_13e : Rg b22_13 b22_13l false := rgE _ _
def b22_14 : EC := .sq b22_13 .rt
@[simp] theorem b22_14e : Sq b22_14 b22_13 .rt := sqE _ _
def b22_15 : EC := .cd (t 36) b22_14 .skip
@[simp] theorem b22_15e : Cd b22_15 (t 36) b22_14 .skip := cdE _ _ _
def b22_16 : EC := .sq b22_12 b22_15
@[simp] theorem b22_16e : Sq b22_16 b22_12 b22_15 := sqE _ _
@[simp] def b22_17l : List EO := [o 38 (.load 16 true) [t 10],
 o 39 (.faddr 4) [t 3],
 o 40 (.load 1 false) [t 39],
 m 41 9,
 o 42 (.iaS 4) [t 40, t 41],
 o 43 (.faddr 0) [t 42],
 o 44 (.load 1 false) [t 43],
 o 45 (.build [.t (.int .i64 0), .t (.int .i64 0), .t (.int .i64 0), .t (.int .i64 0), .t (.int .i64 0), .t (.int .i64 0), .t (.int .i64 0), .t (.int .i64 0), .t (.int .i64 0), .t (.int .i64 0), .t (.int .i64 0), .t (.int .i64 0), .t (.int .i64 0), .t (.int .i64 0), .t (.int .i64 0), .t (.int .i64 0)] [(0, 1)]) [t 44],
 o 46 (.eqv true true [1, 1, 1, 1, 1, 1, 1, 1, 1, 1, 1, 1, 1, 1, 1, 1]) [t 38, t 45]]
def b22_17 : EC := .rg b22_17l true
@[simp] theorem b22_17e : Rg b22_17 b22_17l true := rgE _ _
@[simp] def b22_18l : List EO := [m 47 8,
 o 48 (.load 16 true) [t 10],
 o 49 (.bsl 16) [t 48],
 o 50 (.appB 47 16 128) [t 47, t 49],
 m 8 50]
def b22_18 : EC := .rg b22_18l false
@[simp] theorem b22_18e : Rg b22_18 b22_18l false := rgE _ _
def b22_19 : EC := .cd (t 46) b22_18 .skip
@[simp] theorem b22_19e : Cd b22_19 (t 46) b22_18 .skip := cdE _ _ _
def b22_20 : EC := .sq b22_17 b22_19
@[simp] theorem b22_20e : Sq b22_20 b22_17 b22_19 := sqE _ _
def b22_21 : EC := .sq b22_16 b22_20
@[simp] theorem b22_21e : Sq b22_21 b22_16 b22_20 := sqE _ _
def b22_22 : EC := .sq b22_11 b22_21
@[simp] theorem b22_22e : Sq b22_22 b22_11 b22_21 := sqE _ _
def b22_23 : EC := .bk 1 b22_22
@[simp] theorem b22_23e : Bk b22_23 1 b22_22 := bkE _ _
@[simp] def b22_24l : List EO := [m 20 9,
 o 21 (.bin .add) [t 20, i 1],
 m 9 21]
def b22_24 : EC := .rg b22_24l false
@[simp] theorem b22_24e : Rg b22_24 b22_24l false := rgE _ _
def b22_25 : EC := .sq b22_23 b22_24
@[simp] theorem b22_25e : Sq b22_25 b22_23 b22_24 := sqE _ _
def b22_26 : EC := .sq b22_10 b22_25
@[simp] theorem b22_26e : Sq b22_26 b22_10 b22_25 := sqE _ _
def b22_27 : EC := .bk 0 (.lp b22_26)
@[simp] theorem b22_27e : Bk b22_27 0 (.lp b22_26) := bkE _ _
def b22_28 : EC := .sq b22_7 b22_27
@[simp] theorem b22_28e : Sq b22_28 b22_7 b22_27 := sqE _ _
@[simp] def b22_29l : List EO := [m 51 8,
 m 6 51,
 o 7 .mv [i 0]]
def b22_29 : EC := .rg b22_29l false
@[simp] theorem b22_29e : Rg b22_29 b22_29l false := rgE _ _
def b22_30 : EC := .sq b22_29 .rt
@[simp] theorem b22_30e : Sq b22_30 b22_29 .rt := sqE _ _
def b22_31 : EC := .sq b22_28 b22_30
@[simp] theorem b22_31e : Sq b22_31 b22_28 b22_30 := sqE _ _
def b22_32 : EC := .sq b22_6 b22_31
@[simp] theorem b22_32e : Sq b22_32 b22_6 b22_31 := sqE _ _
def b22_33 : EC := .sq b22_5 b22_32
@[simp] theorem b22_33e : Sq b22_33 b22_5 b22_32 := sqE _ _
def b22_34 : EC := .sq b22_0 b22_33
@[simp] theorem b22_34e : Sq b22_34 b22_0 b22_33 := sqE _ _
def b_tallystoneref52_All_22 : EC := b22_34
theorem kb_22 : ecB Try.prog 22 = some (52, b_tallystoneref52_All_22, [.tm 6, .tm 7]) := by kernel_rfl

/-- tallystone/tallystoneref52.Same -/
@[simp] def c23_0l : List EO := [o 4 .mv [b false]]
def c23_0 : EC := .rg c23_0l false
@[simp] theorem c23_0e : Rg c23_0 c23_0l false := rgE _ _
@[simp] def c23_1l : List EO := [m 6 0,
 o 7 .lenL [t 6],
 m 8 1,
 o 9 .lenL [t 8],
 o 10 (.bin .neq) [t 7, t 9]]
def c23_1 : EC := .rg c23_1l false
@[simp] theorem c23_1e : Rg c23_1 c23_1l false := rgE _ _
@[simp] def c23_2l : List EO := [o 4 .mv [b false]]
def c23_2 : EC := .rg c23_2l false
@[simp] theorem c23_2e : Rg c23_2 c23_2l false := rgE _ _
def c23_3 : EC := .sq c23_2 .rt
@[simp] theorem c23_3e : Sq c23_3 c23_2 .rt := sqE _ _
def c23_4 : EC := .cd (t 10) c23_3 .skip
@[simp] theorem c23_4e : Cd c23_4 (t 10) c23_3 .skip := cdE _ _ _
def c23_5 : EC := .sq c23_1 c23_4
@[simp] theorem c23_5e : Sq c23_5 c23_1 c23_4 := sqE _ _
@[simp] def c23_6l : List EO := [o 5 .mv [i 0]]
def c23_6 : EC := .rg c23_6l false
@[simp] theorem c23_6e : Rg c23_6 c23_6l false := rgE _ _
@[simp] def c23_7l : List EO := [m 11 5,
 m 12 0,
 o 13 .lenL [t 12],
 o 14 (.bin .lss) [t 11, t 13]]
def c23_7 : EC := .rg c23_7l false
@[simp] theorem c23_7e : Rg c23_7 c23_7l false := rgE _ _
def c23_8 : EC := .cd (t 14) .skip (.ex 0)
@[simp] theorem c23_8e : Cd c23_8 (t 14) .skip (.ex 0) := cdE _ _ _
def c23_9 : EC := .sq c23_7 c23_8
@[simp] theorem c23_9e : Sq c23_9 c23_7 c23_8 := sqE _ _
@[simp] def c23_10l : List EO := [m 17 0,
 m 18 5,
 o 19 (.iaS 16) [t 17, t 18],
 o 20 (.load 16 true) [t 19],
 m 21 1,
 m 22 5,
 o 23 (.iaS 16) [t 21, t 22],
 o 24 (.load 16 true) [t 23],
 o 25 (.eqv true true [1, 1, 1, 1, 1, 1, 1, 1, 1, 1, 1, 1, 1, 1, 1, 1]) [t 20, t 24]]
def c23_10 : EC := .rg c23_10l true
@[simp] theorem c23_10e : Rg c23_10 c23_10l true := rgE _ _
@[simp] def c23_11l : List EO := [o 4 .mv [b false]]
def c23_11 : EC := .rg c23_11l false
@[simp] theorem c23_11e : Rg c23_11 c23_11l false := rgE _ _
def c23_12 : EC := .sq c23_11 .rt
@[simp] theorem c23_12e : Sq c23_12 c23_11 .rt := sqE _ _
def c23_13 : EC := .cd (t 25) c23_12 .skip
@[simp] theorem c23_13e : Cd c23_13 (t 25) c23_12 .skip := cdE _ _ _
def c23_14 : EC := .sq c23_10 c23_13
@[simp] theorem c23_14e : Sq c23_14 c23_10 c23_13 := sqE _ _
def c23_15 : EC := .bk 1 c23_14
@[simp] theorem c23_15e : Bk c23_15 1 c23_14 := bkE _ _
@[simp] def c23_16l : List EO := [m 15 5,
 o 16 (.bin .add) [t 15, i 1],
 m 5 16]
def c23_16 : EC := .rg c23_16l false
@[simp] theorem c23_16e : Rg c23_16 c23_16l false := rgE _ _
def c23_17 : EC := .sq c23_15 c23_16
@[simp] theorem c23_17e : Sq c23_17 c23_15 c23_16 := sqE _ _
def c23_18 : EC := .sq c23_9 c23_17
@[simp] theorem c23_18e : Sq c23_18 c23_9 c23_17 := sqE _ _
def c23_19 : EC := .bk 0 (.lp c23_18)
@[simp] theorem c23_19e : Bk c23_19 0 (.lp c23_18) := bkE _ _
def c23_20 : EC := .sq c23_6 c23_19
@[simp] theorem c23_20e : Sq c23_20 c23_6 c23_19 := sqE _ _
@[simp] def c23_21l : List EO := [o 4 .mv [b true]]
def c23_21 : EC := .rg c23_21l false
@[simp] theorem c23_21e : Rg c23_21 c23_21l false := rgE _ _
def c23_22 : EC := .sq c23_21 .rt
@[simp] theorem c23_22e : Sq c23_22 c23_21 .rt := sqE _ _
def c23_23 : EC := .sq c23_20 c23_22
@[simp] theorem c23_23e : Sq c23_23 c23_20 c23_22 := sqE _ _
def c23_24 : EC := .sq c23_5 c23_23
@[simp] theorem c23_24e : Sq c23_24 c23_5 c23_23 := sqE _ _
def c23_25 : EC := .sq c23_0 c23_24
@[simp] theorem c23_25e : Sq c23_25 c23_0 c23_24 := sqE _ _
def c_tallystoneref52_Same_23 : EC := c23_25
theorem k_23 : ecF Try.prog 23 = some (26, c_tallystoneref52_Same_23, [.tm 4]) := by kernel_rfl

/-- tallystone/tallystonelaw52.from -/
@[simp] def c24_0l : List EO := [o 2 .mv [c (.snil)]]
def c24_0 : EC := .rg c24_0l false
@[simp] theorem c24_0e : Rg c24_0 c24_0l false := rgE _ _
@[simp] def c24_1l : List EO := [o 3 .mv [c (.snil)]]
def c24_1 : EC := .rg c24_1l false
@[simp] theorem c24_1e : Rg c24_1 c24_1l false := rgE _ _
@[simp] def c24_2l : List EO := [m 6 0,
 o 7 .lenL [t 6],
 o 8 .mv [i 0]]
def c24_2 : EC := .rg c24_2l false
@[simp] theorem c24_2e : Rg c24_2 c24_2l false := rgE _ _
@[simp] def c24_3l : List EO := [o 9 (.bin .lss) [t 8, t 7]]
def c24_3 : EC := .rg c24_3l false
@[simp] theorem c24_3e : Rg c24_3 c24_3l false := rgE _ _
def c24_4 : EC := .cd (t 9) .skip (.ex 0)
@[simp] theorem c24_4e : Cd c24_4 (t 9) .skip (.ex 0) := cdE _ _ _
@[simp] def c24_5l : List EO := [o 10 (.iaS 16) [t 6, t 8],
 o 11 (.load 16 true) [t 10],
 o 5 (.alloc [.t (.int .i64 0), .t (.int .i64 0), .t (.int .i64 0), .t (.int .i64 0), .t (.int .i64 0), .t (.int .i64 0), .t (.int .i64 0), .t (.int .i64 0), .t (.int .i64 0), .t (.int .i64 0), .t (.int .i64 0), .t (.int .i64 0), .t (.int .i64 0), .t (.int .i64 0), .t (.int .i64 0), .t (.int .i64 0)]) [],
 u (.store 16) [t 5, t 11]]
def c24_5 : EC := .rg c24_5l false
@[simp] theorem c24_5e : Rg c24_5 c24_5l false := rgE _ _
@[simp] def c24_6l : List EO := [m 12 3,
 o 13 (.load 16 true) [t 5],
 o 14 (.bsl 16) [t 13],
 o 15 (.app 47 16 128) [t 12, t 14],
 m 3 15]
def c24_6 : EC := .rg c24_6l false
@[simp] theorem c24_6e : Rg c24_6 c24_6l false := rgE _ _
def c24_7 : EC := .sq c24_5 c24_6
@[simp] theorem c24_7e : Sq c24_7 c24_5 c24_6 := sqE _ _
def c24_8 : EC := .bk 1 c24_7
@[simp] theorem c24_8e : Bk c24_8 1 c24_7 := bkE _ _
@[simp] def c24_9l : List EO := [o 16 (.bin .add) [t 8, i 1],
 m 8 16]
def c24_9 : EC := .rg c24_9l false
@[simp] theorem c24_9e : Rg c24_9 c24_9l false := rgE _ _
def c24_10 : EC := .sq c24_8 c24_9
@[simp] theorem c24_10e : Sq c24_10 c24_8 c24_9 := sqE _ _
def c24_11 : EC := .sq c24_4 c24_10
@[simp] theorem c24_11e : Sq c24_11 c24_4 c24_10 := sqE _ _
def c24_12 : EC := .sq c24_3 c24_11
@[simp] theorem c24_12e : Sq c24_12 c24_3 c24_11 := sqE _ _
def c24_13 : EC := .bk 0 (.lp c24_12)
@[simp] theorem c24_13e : Bk c24_13 0 (.lp c24_12) := bkE _ _
def c24_14 : EC := .sq c24_2 c24_13
@[simp] theorem c24_14e : Sq c24_14 c24_2 c24_13 := sqE _ _
@[simp] def c24_15l : List EO := [m 17 3,
 m 2 17]
def c24_15 : EC := .rg c24_15l false
@[simp] theorem c24_15e : Rg c24_15 c24_15l false := rgE _ _
def c24_16 : EC := .sq c24_15 .rt
@[simp] theorem c24_16e : Sq c24_16 c24_15 .rt := sqE _ _
def c24_17 : EC := .sq c24_14 c24_16
@[simp] theorem c24_17e : Sq c24_17 c24_14 c24_16 := sqE _ _
def c24_18 : EC := .sq c24_1 c24_17
@[simp] theorem c24_18e : Sq c24_18 c24_1 c24_17 := sqE _ _
def c24_19 : EC := .sq c24_0 c24_18
@[simp] theorem c24_19e : Sq c24_19 c24_0 c24_18 := sqE _ _
def c_tallystonelaw52_from_24 : EC := c24_19
theorem k_24 : ecF Try.prog 24 = some (18, c_tallystonelaw52_from_24, [.tm 2]) := by kernel_rfl

/-- tallystone/tallystonelaw52.from, with slices that grow in boxes -/
@[simp] def b24_0l : List EO := [o 2 .mv [c (.snil)]]
def b24_0 : EC := .rg b24_0l false
@[simp] theorem b24_0e : Rg b24_0 b24_0l false := rgE _ _
@[simp] def b24_1l : List EO := [o 3 .mv [c (.snil)]]
def b24_1 : EC := .rg b24_1l false
@[simp] theorem b24_1e : Rg b24_1 b24_1l false := rgE _ _
@[simp] def b24_2l : List EO := [m 6 0,
 o 7 .lenL [t 6],
 o 8 .mv [i 0]]
def b24_2 : EC := .rg b24_2l false
@[simp] theorem b24_2e : Rg b24_2 b24_2l false := rgE _ _
@[simp] def b24_3l : List EO := [o 9 (.bin .lss) [t 8, t 7]]
def b24_3 : EC := .rg b24_3l false
@[simp] theorem b24_3e : Rg b24_3 b24_3l false := rgE _ _
def b24_4 : EC := .cd (t 9) .skip (.ex 0)
@[simp] theorem b24_4e : Cd b24_4 (t 9) .skip (.ex 0) := cdE _ _ _
@[simp] def b24_5l : List EO := [o 10 (.iaS 16) [t 6, t 8],
 o 11 (.load 16 true) [t 10],
 o 5 (.alloc [.t (.int .i64 0), .t (.int .i64 0), .t (.int .i64 0), .t (.int .i64 0), .t (.int .i64 0), .t (.int .i64 0), .t (.int .i64 0), .t (.int .i64 0), .t (.int .i64 0), .t (.int .i64 0), .t (.int .i64 0), .t (.int .i64 0), .t (.int .i64 0), .t (.int .i64 0), .t (.int .i64 0), .t (.int .i64 0)]) [],
 u (.store 16) [t 5, t 11]]
def b24_5 : EC := .rg b24_5l false
@[simp] theorem b24_5e : Rg b24_5 b24_5l false := rgE _ _
@[simp] def b24_6l : List EO := [m 12 3,
 o 13 (.load 16 true) [t 5],
 o 14 (.bsl 16) [t 13],
 o 15 (.appB 47 16 128) [t 12, t 14],
 m 3 15]
def b24_6 : EC := .rg b24_6l false
@[simp] theorem b24_6e : Rg b24_6 b24_6l false := rgE _ _
def b24_7 : EC := .sq b24_5 b24_6
@[simp] theorem b24_7e : Sq b24_7 b24_5 b24_6 := sqE _ _
def b24_8 : EC := .bk 1 b24_7
@[simp] theorem b24_8e : Bk b24_8 1 b24_7 := bkE _ _
@[simp] def b24_9l : List EO := [o 16 (.bin .add) [t 8, i 1],
 m 8 16]
def b24_9 : EC := .rg b24_9l false
@[simp] theorem b24_9e : Rg b24_9 b24_9l false := rgE _ _
def b24_10 : EC := .sq b24_8 b24_9
@[simp] theorem b24_10e : Sq b24_10 b24_8 b24_9 := sqE _ _
def b24_11 : EC := .sq b24_4 b24_10
@[simp] theorem b24_11e : Sq b24_11 b24_4 b24_10 := sqE _ _
def b24_12 : EC := .sq b24_3 b24_11
@[simp] theorem b24_12e : Sq b24_12 b24_3 b24_11 := sqE _ _
def b24_13 : EC := .bk 0 (.lp b24_12)
@[simp] theorem b24_13e : Bk b24_13 0 (.lp b24_12) := bkE _ _
def b24_14 : EC := .sq b24_2 b24_13
@[simp] theorem b24_14e : Sq b24_14 b24_2 b24_13 := sqE _ _
@[simp] def b24_15l : List EO := [m 17 3,
 m 2 17]
def b24_15 : EC := .rg b24_15l false
@[simp] theorem b24_15e : Rg b24_15 b24_15l false := rgE _ _
def b24_16 : EC := .sq b24_15 .rt
@[simp] theorem b24_16e : Sq b24_16 b24_15 .rt := sqE _ _
def b24_17 : EC := .sq b24_14 b24_16
@[simp] theorem b24_17e : Sq b24_17 b24_14 b24_16 := sqE _ _
def b24_18 : EC := .sq b24_1 b24_17
@[simp] theorem b24_18e : Sq b24_18 b24_1 b24_17 := sqE _ _
def b24_19 : EC := .sq b24_0 b24_18
@[simp] theorem b24_19e : Sq b24_19 b24_0 b24_18 := sqE _ _
def b_tallystonelaw52_from_24 : EC := b24_19
theorem kb_24 : ecB Try.prog 24 = some (18, b_tallystonelaw52_from_24, [.tm 2]) := by kernel_rfl

/-- tallystone/tallystoneref36.Parts -/
@[simp] def c25_0l : List EO := [o 4 .mv [c (.snil)]]
def c25_0 : EC := .rg c25_0l false
@[simp] theorem c25_0e : Rg c25_0 c25_0l false := rgE _ _
@[simp] def c25_1l : List EO := [o 5 .mv [c (.snil)]]
def c25_1 : EC := .rg c25_1l false
@[simp] theorem c25_1e : Rg c25_1 c25_1l false := rgE _ _
@[simp] def c25_2l : List EO := [o 6 .mv [i 0]]
def c25_2 : EC := .rg c25_2l false
@[simp] theorem c25_2e : Rg c25_2 c25_2l false := rgE _ _
@[simp] def c25_3l : List EO := [m 8 6,
 m 9 0,
 o 10 .lenL [t 9],
 o 11 (.bin .lss) [t 8, t 10]]
def c25_3 : EC := .rg c25_3l false
@[simp] theorem c25_3e : Rg c25_3 c25_3l false := rgE _ _
def c25_4 : EC := .cd (t 11) .skip (.ex 0)
@[simp] theorem c25_4e : Cd c25_4 (t 11) .skip (.ex 0) := cdE _ _ _
def c25_5 : EC := .sq c25_3 c25_4
@[simp] theorem c25_5e : Sq c25_5 c25_3 c25_4 := sqE _ _
@[simp] def c25_6l : List EO := [m 14 5,
 m 15 0,
 m 16 6,
 o 17 (.iaS 7) [t 15, t 16],
 o 18 (.faddr 3) [t 17],
 o 19 (.load 1 false) [t 18],
 m 20 0,
 m 21 6,
 o 22 (.iaS 7) [t 20, t 21],
 o 23 (.faddr 6) [t 22],
 o 24 (.load 1 false) [t 23],
 o 25 (.build [.t (.int .i64 0), .t (.int .i64 0)] [(0, 1), (1, 1)]) [t 19, t 24],
 o 26 (.bsl 2) [t 25],
 o 27 (.app 76 2 16) [t 14, t 26],
 m 5 27]
def c25_6 : EC := .rg c25_6l true
@[simp] theorem c25_6e : Rg c25_6 c25_6l true := rgE _ _
def c25_7 : EC := .bk 1 c25_6
@[simp] theorem c25_7e : Bk c25_7 1 c25_6 := bkE _ _
@[simp] def c25_8l : List EO := [m 12 6,
 o 13 (.bin .add) [t 12, i 1],
 m 6 13]
def c25_8 : EC := .rg c25_8l false
@[simp] theorem c25_8e : Rg c25_8 c25_8l false := rgE _ _
def c25_9 : EC := .sq c25_7 c25_8
@[simp] theorem c25_9e : Sq c25_9 c25_7 c25_8 := sqE _ _
def c25_10 : EC := .sq c25_5 c25_9
@[simp] theorem c25_10e : Sq c25_10 c25_5 c25_9 := sqE _ _
def c25_11 : EC := .bk 0 (.lp c25_10)
@[simp] theorem c25_11e : Bk c25_11 0 (.lp c25_10) := bkE _ _
def c25_12 : EC := .sq c25_2 c25_11
@[simp] theorem c25_12e : Sq c25_12 c25_2 c25_11 := sqE _ _
@[simp] def c25_13l : List EO := [o 7 .mv [i 0]]
def c25_13 : EC := .rg c25_13l false
@[simp] theorem c25_13e : Rg c25_13 c25_13l false := rgE _ _
@[simp] def c25_14l : List EO := [m 28 7,
 m 29 1,
 o 30 .lenL [t 29],
 o 31 (.bin .lss) [t 28, t 30]]
def c25_14 : EC := .rg c25_14l false
@[simp] theorem c25_14e : Rg c25_14 c25_14l false := rgE _ _
def c25_15 : EC := .cd (t 31) .skip (.ex 2)
@[simp] theorem c25_15e : Cd c25_15 (t 31) .skip (.ex 2) := cdE _ _ _
def c25_16 : EC := .sq c25_14 c25_15
@[simp] theorem c25_16e : Sq c25_16 c25_14 c25_15 := sqE _ _
@[simp] def c25_17l : List EO := [m 34 5,
 m 35 1,
 m 36 7,
 o 37 (.iaS 5) [t 35, t 36],
 o 38 (.faddr 4) [t 37],
 o 39 (.load 1 false) [t 38],
 o 40 (.app 76 2 16) [t 34, t 39],
 m 5 40]
def c25_17 : EC := .rg c25_17l false
@[simp] theorem c25_17e : Rg c25_17 c25_17l false := rgE _ _
def c25_18 : EC := .bk 3 c25_17
@[simp] theorem c25_18e : Bk c25_18 3 c25_17 := bkE _ _
@[simp] def c25_19l : List EO := [m 32 7,
 o 33 (.bin .add) [t 32, i 1],
 m 7 33]
def c25_19 : EC := .rg c25_19l false
@[simp] theorem c25_19e : Rg c25_19 c25_19l false := rgE _ _
def c25_20 : EC := .sq c25_18 c25_19
@[simp] theorem c25_20e : Sq c25_20 c25_18 c25_19 := sqE _ _
def c25_21 : EC := .sq c25_16 c25_20
@[simp] theorem c25_21e : Sq c25_21 c25_16 c25_20 := sqE _ _
def c25_22 : EC := .bk 2 (.lp c25_21)
@[simp] theorem c25_22e : Bk c25_22 2 (.lp c25_21) := bkE _ _
def c25_23 : EC := .sq c25_13 c25_22
@[simp] theorem c25_23e : Sq c25_23 c25_13 c25_22 := sqE _ _
@[simp] def c25_24l : List EO := [m 41 5,
 m 4 41]
def c25_24 : EC := .rg c25_24l false
@[simp] theorem c25_24e : Rg c25_24 c25_24l false := rgE _ _
def c25_25 : EC := .sq c25_24 .rt
@[simp] theorem c25_25e : Sq c25_25 c25_24 .rt := sqE _ _
def c25_26 : EC := .sq c25_23 c25_25
@[simp] theorem c25_26e : Sq c25_26 c25_23 c25_25 := sqE _ _
def c25_27 : EC := .sq c25_12 c25_26
@[simp] theorem c25_27e : Sq c25_27 c25_12 c25_26 := sqE _ _
def c25_28 : EC := .sq c25_1 c25_27
@[simp] theorem c25_28e : Sq c25_28 c25_1 c25_27 := sqE _ _
def c25_29 : EC := .sq c25_0 c25_28
@[simp] theorem c25_29e : Sq c25_29 c25_0 c25_28 := sqE _ _
def c_tallystoneref36_Parts_25 : EC := c25_29
theorem k_25 : ecF Try.prog 25 = some (42, c_tallystoneref36_Parts_25, [.tm 4]) := by kernel_rfl

/-- tallystone/tallystoneref36.Parts, with slices that grow in boxes -/
@[simp] def b25_0l : List EO := [o 4 .mv [c (.snil)]]
def b25_0 : EC := .rg b25_0l false
@[simp] theorem b25_0e : Rg b25_0 b25_0l false := rgE _ _
@[simp] def b25_1l : List EO := [o 5 .mv [c (.snil)]]
def b25_1 : EC := .rg b25_1l false
@[simp] theorem b25_1e : Rg b25_1 b25_1l false := rgE _ _
@[simp] def b25_2l : List EO := [o 6 .mv [i 0]]
def b25_2 : EC := .rg b25_2l false
@[simp] theorem b25_2e : Rg b25_2 b25_2l false := rgE _ _
@[simp] def b25_3l : List EO := [m 8 6,
 m 9 0,
 o 10 .lenL [t 9],
 o 11 (.bin .lss) [t 8, t 10]]
def b25_3 : EC := .rg b25_3l false
@[simp] theorem b25_3e : Rg b25_3 b25_3l false := rgE _ _
def b25_4 : EC := .cd (t 11) .skip (.ex 0)
@[simp] theorem b25_4e : Cd b25_4 (t 11) .skip (.ex 0) := cdE _ _ _
def b25_5 : EC := .sq b25_3 b25_4
@[simp] theorem b25_5e : Sq b25_5 b25_3 b25_4 := sqE _ _
@[simp] def b25_6l : List EO := [m 14 5,
 m 15 0,
 m 16 6,
 o 17 (.iaS 7) [t 15, t 16],
 o 18 (.faddr 3) [t 17],
 o 19 (.load 1 false) [t 18],
 m 20 0,
 m 21 6,
 o 22 (.iaS 7) [t 20, t 21],
 o 23 (.faddr 6) [t 22],
 o 24 (.load 1 false) [t 23],
 o 25 (.build [.t (.int .i64 0), .t (.int .i64 0)] [(0, 1), (1, 1)]) [t 19, t 24],
 o 26 (.bsl 2) [t 25],
 o 27 (.appB 76 2 16) [t 14, t 26],
 m 5 27]
def b25_6 : EC := .rg b25_6l true
@[simp] theorem b25_6e : Rg b25_6 b25_6l true := rgE _ _
def b25_7 : EC := .bk 1 b25_6
@[simp] theorem b25_7e : Bk b25_7 1 b25_6 := bkE _ _
@[simp] def b25_8l : List EO := [m 12 6,
 o 13 (.bin .add) [t 12, i 1],
 m 6 13]
def b25_8 : EC := .rg b25_8l false
@[simp] theorem b25_8e : Rg b25_8 b25_8l false := rgE _ _
def b25_9 : EC := .sq b25_7 b25_8
@[simp] theorem b25_9e : Sq b25_9 b25_7 b25_8 := sqE _ _
def b25_10 : EC := .sq b25_5 b25_9
@[simp] theorem b25_10e : Sq b25_10 b25_5 b25_9 := sqE _ _
def b25_11 : EC := .bk 0 (.lp b25_10)
@[simp] theorem b25_11e : Bk b25_11 0 (.lp b25_10) := bkE _ _
def b25_12 : EC := .sq b25_2 b25_11
@[simp] theorem b25_12e : Sq b25_12 b25_2 b25_11 := sqE _ _
@[simp] def b25_13l : List EO := [o 7 .mv [i 0]]
def b25_13 : EC := .rg b25_13l false
@[simp] theorem b25_13e : Rg b25_13 b25_13l false := rgE _ _
@[simp] def b25_14l : List EO := [m 28 7,
 m 29 1,
 o 30 .lenL [t 29],
 o 31 (.bin .lss) [t 28, t 30]]
def b25_14 : EC := .rg b25_14l false
@[simp] theorem b25_14e : Rg b25_14 b25_14l false := rgE _ _
def b25_15 : EC := .cd (t 31) .skip (.ex 2)
@[simp] theorem b25_15e : Cd b25_15 (t 31) .skip (.ex 2) := cdE _ _ _
def b25_16 : EC := .sq b25_14 b25_15
@[simp] theorem b25_16e : Sq b25_16 b25_14 b25_15 := sqE _ _
@[simp] def b25_17l : List EO := [m 34 5,
 m 35 1,
 m 36 7,
 o 37 (.iaS 5) [t 35, t 36],
 o 38 (.faddr 4) [t 37],
 o 39 (.load 1 false) [t 38],
 o 40 (.appB 76 2 16) [t 34, t 39],
 m 5 40]
def b25_17 : EC := .rg b25_17l false
@[simp] theorem b25_17e : Rg b25_17 b25_17l false := rgE _ _
def b25_18 : EC := .bk 3 b25_17
@[simp] theorem b25_18e : Bk b25_18 3 b25_17 := bkE _ _
@[simp] def b25_19l : List EO := [m 32 7,
 o 33 (.bin .add) [t 32, i 1],
 m 7 33]
def b25_19 : EC := .rg b25_19l false
@[simp] theorem b25_19e : Rg b25_19 b25_19l false := rgE _ _
def b25_20 : EC := .sq b25_18 b25_19
@[simp] theorem b25_20e : Sq b25_20 b25_18 b25_19 := sqE _ _
def b25_21 : EC := .sq b25_16 b25_20
@[simp] theorem b25_21e : Sq b25_21 b25_16 b25_20 := sqE _ _
def b25_22 : EC := .bk 2 (.lp b25_21)
@[simp] theorem b25_22e : Bk b25_22 2 (.lp b25_21) := bkE _ _
def b25_23 : EC := .sq b25_13 b25_22
@[simp] theorem b25_23e : Sq b25_23 b25_13 b25_22 := sqE _ _
@[simp] def b25_24l : List EO := [m 41 5,
 m 4 41]
def b25_24 : EC := .rg b25_24l false
@[simp] theorem b25_24e : Rg b25_24 b25_24l false := rgE _ _
def b25_25 : EC := .sq b25_24 .rt
@[simp] theorem b25_25e : Sq b25_25 b25_24 .rt := sqE _ _
def b25_26 : EC := .sq b25_23 b25_25
@[simp] theorem b25_26e : Sq b25_26 b25_23 b25_25 := sqE _ _
def b25_27 : EC := .sq b25_12 b25_26
@[simp] theorem b25_27e : Sq b25_27 b25_12 b25_26 := sqE _ _
def b25_28 : EC := .sq b25_1 b25_27
@[simp] theorem b25_28e : Sq b25_28 b25_1 b25_27 := sqE _ _
def b25_29 : EC := .sq b25_0 b25_28
@[simp] theorem b25_29e : Sq b25_29 b25_0 b25_28 := sqE _ _
def b_tallystoneref36_Parts_25 : EC := b25_29
theorem kb_25 : ecB Try.prog 25 = some (42, b_tallystoneref36_Parts_25, [.tm 4]) := by kernel_rfl

/-- tallystone/tallystoneref10.Account -/
@[simp] def c26_0l : List EO := [o 2 .box [t 0],
 o 4 (.alloc [.t (.int .i64 0), .t (.int .i64 0), .t (.int .i64 0), .t (.int .i64 0)]) [],
 o 5 .mv [b false]]
def c26_0 : EC := .rg c26_0l false
@[simp] theorem c26_0e : Rg c26_0 c26_0l false := rgE _ _
@[simp] def c26_1l : List EO := [o 6 (.faddr 4) [t 2],
 o 7 (.load 1 false) [t 6],
 m 8 1,
 o 9 (.call 50) [t 7, t 8],
 o 10 (.ext 0) [t 9],
 o 11 (.ext 1) [t 9],
 u (.store 4) [t 4, t 10],
 m 5 11]
def c26_1 : EC := .rg c26_1l false
@[simp] theorem c26_1e : Rg c26_1 c26_1l false := rgE _ _
def c26_2 : EC := .sq c26_1 .rt
@[simp] theorem c26_2e : Sq c26_2 c26_1 .rt := sqE _ _
def c26_3 : EC := .sq c26_0 c26_2
@[simp] theorem c26_3e : Sq c26_3 c26_0 c26_2 := sqE _ _
def c_tallystoneref10_Account_26 : EC := c26_3
theorem k_26 : ecF Try.prog 26 = some (12, c_tallystoneref10_Account_26, [.ce 4 4 true, .tm 5]) := by kernel_rfl

/-- tallystone/tallystonelaw52.NoteOrder$1 -/
@[simp] def c27_0l : List EO := [o 1 .box [t 0],
 o 2 (.alloc [.t (.int .i64 0), .snil, .snil, .snil]) []]
def c27_0 : EC := .rg c27_0l false
@[simp] theorem c27_0e : Rg c27_0 c27_0l false := rgE _ _
@[simp] def c27_1l : List EO := [o 6 (.faddr 0) [t 1],
 o 7 (.load 1 false) [t 6],
 o 8 (.build [.t (.int .i64 0), .snil, .snil, .snil] [(0, 1)]) [t 7],
 o 3 (.alloc [.t (.int .i64 0), .snil, .snil, .snil]) [],
 u (.store 4) [t 3, t 8]]
def c27_1 : EC := .rg c27_1l false
@[simp] theorem c27_1e : Rg c27_1 c27_1l false := rgE _ _
@[simp] def c27_2l : List EO := [o 9 (.faddr 1) [t 1],
 o 10 (.load 1 false) [t 9],
 o 11 .lenL [t 10],
 o 12 .mv [i 0]]
def c27_2 : EC := .rg c27_2l false
@[simp] theorem c27_2e : Rg c27_2 c27_2l false := rgE _ _
@[simp] def c27_3l : List EO := [o 13 (.bin .lss) [t 12, t 11]]
def c27_3 : EC := .rg c27_3l false
@[simp] theorem c27_3e : Rg c27_3 c27_3l false := rgE _ _
def c27_4 : EC := .cd (t 13) .skip (.ex 0)
@[simp] theorem c27_4e : Cd c27_4 (t 13) .skip (.ex 0) := cdE _ _ _
@[simp] def c27_5l : List EO := [m 14 12,
 m 4 14]
def c27_5 : EC := .rg c27_5l false
@[simp] theorem c27_5e : Rg c27_5 c27_5l false := rgE _ _
@[simp] def c27_6l : List EO := [o 15 (.faddr 1) [t 3],
 o 16 (.load 1 false) [t 15],
 o 17 (.faddr 1) [t 1],
 o 18 (.load 1 false) [t 17],
 o 19 (.faddr 1) [t 1],
 o 20 (.load 1 false) [t 19],
 o 21 .lenL [t 20],
 o 22 (.bin .sub) [t 21, i 1],
 m 23 4,
 o 24 (.bin .sub) [t 22, t 23],
 o 25 (.iaS 7) [t 18, t 24],
 o 26 (.load 7 true) [t 25],
 o 27 (.bsl 7) [t 26],
 o 28 (.app 62 7 56) [t 16, t 27],
 o 29 (.faddr 1) [t 3],
 u (.store 1) [t 29, t 28]]
def c27_6 : EC := .rg c27_6l true
@[simp] theorem c27_6e : Rg c27_6 c27_6l true := rgE _ _
def c27_7 : EC := .sq c27_5 c27_6
@[simp] theorem c27_7e : Sq c27_7 c27_5 c27_6 := sqE _ _
def c27_8 : EC := .bk 1 c27_7
@[simp] theorem c27_8e : Bk c27_8 1 c27_7 := bkE _ _
@[simp] def c27_9l : List EO := [o 30 (.bin .add) [t 12, i 1],
 m 12 30]
def c27_9 : EC := .rg c27_9l false
@[simp] theorem c27_9e : Rg c27_9 c27_9l false := rgE _ _
def c27_10 : EC := .sq c27_8 c27_9
@[simp] theorem c27_10e : Sq c27_10 c27_8 c27_9 := sqE _ _
def c27_11 : EC := .sq c27_4 c27_10
@[simp] theorem c27_11e : Sq c27_11 c27_4 c27_10 := sqE _ _
def c27_12 : EC := .sq c27_3 c27_11
@[simp] theorem c27_12e : Sq c27_12 c27_3 c27_11 := sqE _ _
def c27_13 : EC := .bk 0 (.lp c27_12)
@[simp] theorem c27_13e : Bk c27_13 0 (.lp c27_12) := bkE _ _
def c27_14 : EC := .sq c27_2 c27_13
@[simp] theorem c27_14e : Sq c27_14 c27_2 c27_13 := sqE _ _
@[simp] def c27_15l : List EO := [o 31 (.faddr 2) [t 1],
 o 32 (.load 1 false) [t 31],
 o 33 .lenL [t 32],
 o 34 .mv [i 0]]
def c27_15 : EC := .rg c27_15l false
@[simp] theorem c27_15e : Rg c27_15 c27_15l false := rgE _ _
@[simp] def c27_16l : List EO := [o 35 (.bin .lss) [t 34, t 33]]
def c27_16 : EC := .rg c27_16l false
@[simp] theorem c27_16e : Rg c27_16 c27_16l false := rgE _ _
def c27_17 : EC := .cd (t 35) .skip (.ex 2)
@[simp] theorem c27_17e : Cd c27_17 (t 35) .skip (.ex 2) := cdE _ _ _
@[simp] def c27_18l : List EO := [m 36 34,
 m 5 36]
def c27_18 : EC := .rg c27_18l false
@[simp] theorem c27_18e : Rg c27_18 c27_18l false := rgE _ _
@[simp] def c27_19l : List EO := [o 37 (.faddr 2) [t 3],
 o 38 (.load 1 false) [t 37],
 o 39 (.faddr 2) [t 1],
 o 40 (.load 1 false) [t 39],
 o 41 (.faddr 2) [t 1],
 o 42 (.load 1 false) [t 41],
 o 43 .lenL [t 42],
 o 44 (.bin .sub) [t 43, i 1],
 m 45 5,
 o 46 (.bin .sub) [t 44, t 45],
 o 47 (.iaS 5) [t 40, t 46],
 o 48 (.load 5 true) [t 47],
 o 49 (.bsl 5) [t 48],
 o 50 (.app 55 5 56) [t 38, t 49],
 o 51 (.faddr 2) [t 3],
 u (.store 1) [t 51, t 50]]
def c27_19 : EC := .rg c27_19l true
@[simp] theorem c27_19e : Rg c27_19 c27_19l true := rgE _ _
def c27_20 : EC := .sq c27_18 c27_19
@[simp] theorem c27_20e : Sq c27_20 c27_18 c27_19 := sqE _ _
def c27_21 : EC := .bk 3 c27_20
@[simp] theorem c27_21e : Bk c27_21 3 c27_20 := bkE _ _
@[simp] def c27_22l : List EO := [o 52 (.bin .add) [t 34, i 1],
 m 34 52]
def c27_22 : EC := .rg c27_22l false
@[simp] theorem c27_22e : Rg c27_22 c27_22l false := rgE _ _
def c27_23 : EC := .sq c27_21 c27_22
@[simp] theorem c27_23e : Sq c27_23 c27_21 c27_22 := sqE _ _
def c27_24 : EC := .sq c27_17 c27_23
@[simp] theorem c27_24e : Sq c27_24 c27_17 c27_23 := sqE _ _
def c27_25 : EC := .sq c27_16 c27_24
@[simp] theorem c27_25e : Sq c27_25 c27_16 c27_24 := sqE _ _
def c27_26 : EC := .bk 2 (.lp c27_25)
@[simp] theorem c27_26e : Bk c27_26 2 (.lp c27_25) := bkE _ _
def c27_27 : EC := .sq c27_15 c27_26
@[simp] theorem c27_27e : Sq c27_27 c27_15 c27_26 := sqE _ _
@[simp] def c27_28l : List EO := [o 53 (.load 4 true) [t 3],
 u (.store 4) [t 2, t 53]]
def c27_28 : EC := .rg c27_28l false
@[simp] theorem c27_28e : Rg c27_28 c27_28l false := rgE _ _
def c27_29 : EC := .sq c27_28 .rt
@[simp] theorem c27_29e : Sq c27_29 c27_28 .rt := sqE _ _
def c27_30 : EC := .sq c27_27 c27_29
@[simp] theorem c27_30e : Sq c27_30 c27_27 c27_29 := sqE _ _
def c27_31 : EC := .sq c27_14 c27_30
@[simp] theorem c27_31e : Sq c27_31 c27_14 c27_30 := sqE _ _
def c27_32 : EC := .sq c27_1 c27_31
@[simp] theorem c27_32e : Sq c27_32 c27_1 c27_31 := sqE _ _
def c27_33 : EC := .sq c27_0 c27_32
@[simp] theorem c27_33e : Sq c27_33 c27_0 c27_32 := sqE _ _
def c_tallystonelaw52_NoteOrderS1_27 : EC := c27_33
theorem k_27 : ecF Try.prog 27 = some (54, c_tallystonelaw52_NoteOrderS1_27, [.ce 2 4 true]) := by kernel_rfl

/-- tallystone/tallystonelaw52.NoteOrder$1, with slices that grow in boxes -/
@[simp] def b27_0l : List EO := [o 1 .box [t 0],
 o 2 (.alloc [.t (.int .i64 0), .snil, .snil, .snil]) []]
def b27_0 : EC := .rg b27_0l false
@[simp] theorem b27_0e : Rg b27_0 b27_0l false := rgE _ _
@[simp] def b27_1l : List EO := [o 6 (.faddr 0) [t 1],
 o 7 (.load 1 false) [t 6],
 o 8 (.build [.t (.int .i64 0), .snil, .snil, .snil] [(0, 1)]) [t 7],
 o 3 (.alloc [.t (.int .i64 0), .snil, .snil, .snil]) [],
 u (.store 4) [t 3, t 8]]
def b27_1 : EC := .rg b27_1l false
@[simp] theorem b27_1e : Rg b27_1 b27_1l false := rgE _ _
@[simp] def b27_2l : List EO := [o 9 (.faddr 1) [t 1],
 o 10 (.load 1 false) [t 9],
 o 11 .lenL [t 10],
 o 12 .mv [i 0]]
def b27_2 : EC := .rg b27_2l false
@[simp] theorem b27_2e : Rg b27_2 b27_2l false := rgE _ _
@[simp] def b27_3l : List EO := [o 13 (.bin .lss) [t 12, t 11]]
def b27_3 : EC := .rg b27_3l false
@[simp] theorem b27_3e : Rg b27_3 b27_3l false := rgE _ _
def b27_4 : EC := .cd (t 13) .skip (.ex 0)
@[simp] theorem b27_4e : Cd b27_4 (t 13) .skip (.ex 0) := cdE _ _ _
@[simp] def b27_5l : List EO := [m 14 12,
 m 4 14]
def b27_5 : EC := .rg b27_5l false
@[simp] theorem b27_5e : Rg b27_5 b27_5l false := rgE _ _
@[simp] def b27_6l : List EO := [o 15 (.faddr 1) [t 3],
 o 16 (.load 1 false) [t 15],
 o 17 (.faddr 1) [t 1],
 o 18 (.load 1 false) [t 17],
 o 19 (.faddr 1) [t 1],
 o 20 (.load 1 false) [t 19],
 o 21 .lenL [t 20],
 o 22 (.bin .sub) [t 21, i 1],
 m 23 4,
 o 24 (.bin .sub) [t 22, t 23],
 o 25 (.iaS 7) [t 18, t 24],
 o 26 (.load 7 true) [t 25],
 o 27 (.bsl 7) [t 26],
 o 28 (.appB 62 7 56) [t 16, t 27],
 o 29 (.faddr 1) [t 3],
 u (.store 1) [t 29, t 28]]
def b27_6 : EC := .rg b27_6l true
@[simp] theorem b27_6e : Rg b27_6 b27_6l true := rgE _ _
def b27_7 : EC := .sq b27_5 b27_6
@[simp] theorem b27_7e : Sq b27_7 b27_5 b27_6 := sqE _ _
def b27_8 : EC := .bk 1 b27_7
@[simp] theorem b27_8e : Bk b27_8 1 b27_7 := bkE _ _
@[simp] def b27_9l : List EO := [o 30 (.bin .add) [t 12, i 1],
 m 12 30]
def b27_9 : EC := .rg b27_9l false
@[simp] theorem b27_9e : Rg b27_9 b27_9l false := rgE _ _
def b27_10 : EC := .sq b27_8 b27_9
@[simp] theorem b27_10e : Sq b27_10 b27_8 b27_9 := sqE _ _
def b27_11 : EC := .sq b27_4 b27_10
@[simp] theorem b27_11e : Sq b27_11 b27_4 b27_10 := sqE _ _
def b27_12 : EC := .sq b27_3 b27_11
@[simp] theorem b27_12e : Sq b27_12 b27_3 b27_11 := sqE _ _
def b27_13 : EC := .bk 0 (.lp b27_12)
@[simp] theorem b27_13e : Bk b27_13 0 (.lp b27_12) := bkE _ _
def b27_14 : EC := .sq b27_2 b27_13
@[simp] theorem b27_14e : Sq b27_14 b27_2 b27_13 := sqE _ _
@[simp] def b27_15l : List EO := [o 31 (.faddr 2) [t 1],
 o 32 (.load 1 false) [t 31],
 o 33 .lenL [t 32],
 o 34 .mv [i 0]]
def b27_15 : EC := .rg b27_15l false
@[simp] theorem b27_15e : Rg b27_15 b27_15l false := rgE _ _
@[simp] def b27_16l : List EO := [o 35 (.bin .lss) [t 34, t 33]]
def b27_16 : EC := .rg b27_16l false
@[simp] theorem b27_16e : Rg b27_16 b27_16l false := rgE _ _
def b27_17 : EC := .cd (t 35) .skip (.ex 2)
@[simp] theorem b27_17e : Cd b27_17 (t 35) .skip (.ex 2) := cdE _ _ _
@[simp] def b27_18l : List EO := [m 36 34,
 m 5 36]
def b27_18 : EC := .rg b27_18l false
@[simp] theorem b27_18e : Rg b27_18 b27_18l false := rgE _ _
@[simp] def b27_19l : List EO := [o 37 (.faddr 2) [t 3],
 o 38 (.load 1 false) [t 37],
 o 39 (.faddr 2) [t 1],
 o 40 (.load 1 false) [t 39],
 o 41 (.faddr 2) [t 1],
 o 42 (.load 1 false) [t 41],
 o 43 .lenL [t 42],
 o 44 (.bin .sub) [t 43, i 1],
 m 45 5,
 o 46 (.bin .sub) [t 44, t 45],
 o 47 (.iaS 5) [t 40, t 46],
 o 48 (.load 5 true) [t 47],
 o 49 (.bsl 5) [t 48],
 o 50 (.appB 55 5 56) [t 38, t 49],
 o 51 (.faddr 2) [t 3],
 u (.store 1) [t 51, t 50]]
def b27_19 : EC := .rg b27_19l true
@[simp] theorem b27_19e : Rg b27_19 b27_19l true := rgE _ _
def b27_20 : EC := .sq b27_18 b27_19
@[simp] theorem b27_20e : Sq b27_20 b27_18 b27_19 := sqE _ _
def b27_21 : EC := .bk 3 b27_20
@[simp] theorem b27_21e : Bk b27_21 3 b27_20 := bkE _ _
@[simp] def b27_22l : List EO := [o 52 (.bin .add) [t 34, i 1],
 m 34 52]
def b27_22 : EC := .rg b27_22l false
@[simp] theorem b27_22e : Rg b27_22 b27_22l false := rgE _ _
def b27_23 : EC := .sq b27_21 b27_22
@[simp] theorem b27_23e : Sq b27_23 b27_21 b27_22 := sqE _ _
def b27_24 : EC := .sq b27_17 b27_23
@[simp] theorem b27_24e : Sq b27_24 b27_17 b27_23 := sqE _ _
def b27_25 : EC := .sq b27_16 b27_24
@[simp] theorem b27_25e : Sq b27_25 b27_16 b27_24 := sqE _ _
def b27_26 : EC := .bk 2 (.lp b27_25)
@[simp] theorem b27_26e : Bk b27_26 2 (.lp b27_25) := bkE _ _
def b27_27 : EC := .sq b27_15 b27_26
@[simp] theorem b27_27e : Sq b27_27 b27_15 b27_26 := sqE _ _
@[simp] def b27_28l : List EO := [o 53 (.load 4 true) [t 3],
 u (.store 4) [t 2, t 53]]
def b27_28 : EC := .rg b27_28l false
@[simp] theorem b27_28e : Rg b27_28 b27_28l false := rgE _ _
def b27_29 : EC := .sq b27_28 .rt
@[simp] theorem b27_29e : Sq b27_29 b27_28 .rt := sqE _ _
def b27_30 : EC := .sq b27_27 b27_29
@[simp] theorem b27_30e : Sq b27_30 b27_27 b27_29 := sqE _ _
def b27_31 : EC := .sq b27_14 b27_30
@[simp] theorem b27_31e : Sq b27_31 b27_14 b27_30 := sqE _ _
def b27_32 : EC := .sq b27_1 b27_31
@[simp] theorem b27_32e : Sq b27_32 b27_1 b27_31 := sqE _ _
def b27_33 : EC := .sq b27_0 b27_32
@[simp] theorem b27_33e : Sq b27_33 b27_0 b27_32 := sqE _ _
def b_tallystonelaw52_NoteOrderS1_27 : EC := b27_33
theorem kb_27 : ecB Try.prog 27 = some (54, b_tallystonelaw52_NoteOrderS1_27, [.ce 2 4 true]) := by kernel_rfl

/-- tallystone/group.Sample -/
@[simp] def c28_0l : List EO := [o 0 (.alloc [.t (.str []), .t (.int .i64 0), .t (.int .i64 0), .t (.int .i64 0), .snil, .t (.int .i64 0), .t (.int .i64 0), .t (.int .i64 0), .t (.int .i64 0), .t (.int .i64 0), .t (.int .i64 0), .t (.int .i64 0), .t (.int .i64 0), .t (.int .i64 0), .t (.int .i64 0), .t (.int .i64 0), .t (.int .i64 0), .t (.int .i64 0), .t (.int .i64 0), .t (.int .i64 0), .snil]) []]
def c28_0 : EC := .rg c28_0l false
@[simp] theorem c28_0e : Rg c28_0 c28_0l false := rgE _ _
@[simp] def c28_1l : List EO := [o 1 (.build [.t (.int .i64 0), .t (.int .i64 0), .t (.int .i64 0)] [(0, 1), (1, 1), (2, 1)]) [i 2026, i 1, i 36],
 o 2 (.call 51) [],
 o 3 (.build [.t (.int .i64 0), .t (.int .i64 0), .t (.int .i64 0), .t (.int .i64 0), .t (.int .i64 0), .t (.int .i64 0), .t (.int .i64 0), .t (.int .i64 0), .t (.int .i64 0), .t (.int .i64 0), .t (.int .i64 0), .t (.int .i64 0), .t (.int .i64 0), .t (.int .i64 0), .t (.int .i64 0)] [(0, 1), (1, 1), (2, 1), (3, 1), (4, 1), (5, 1), (6, 1), (7, 1), (8, 1), (9, 1), (10, 1), (11, 1), (12, 1), (13, 1), (14, 1)]) [i 1500, i 1600, i 1700, i 1200, i 3100, i 3200, i 3300, i 3400, i 3500, i 4500, i 4600, i 4700, i 5500, i 5600, i 5700],
 o 4 (.call 52) [c (.t (.str [112, 97, 114, 101, 110, 116])), c (.t (.str [69, 85, 82])), b false],
 o 5 (.call 52) [c (.t (.str [110, 111, 114, 116, 104])), c (.t (.str [69, 85, 82])), b false],
 o 6 (.call 52) [c (.t (.str [119, 101, 115, 116])), c (.t (.str [85, 83, 68])), b false],
 o 7 (.call 52) [c (.t (.str [106, 111, 105, 110, 116])), c (.t (.str [85, 83, 68])), b true],
 o 8 (.bsl 5) [t 4, t 5, t 6, t 7],
 o 9 (.build [.t (.str []), .t (.int .i64 0), .t (.int .i64 0), .t (.int .i64 0), .snil, .t (.int .i64 0), .t (.int .i64 0), .t (.int .i64 0), .t (.int .i64 0), .t (.int .i64 0), .t (.int .i64 0), .t (.int .i64 0), .t (.int .i64 0), .t (.int .i64 0), .t (.int .i64 0), .t (.int .i64 0), .t (.int .i64 0), .t (.int .i64 0), .t (.int .i64 0), .t (.int .i64 0), .snil] [(0, 1), (1, 3), (4, 1), (5, 15), (20, 1)]) [c (.t (.str [69, 85, 82])), t 1, t 2, t 3, t 8],
 u (.store 21) [t 0, t 9]]
def c28_1 : EC := .rg c28_1l false
@[simp] theorem c28_1e : Rg c28_1 c28_1l false := rgE _ _
def c28_2 : EC := .sq c28_1 .rt
@[simp] theorem c28_2e : Sq c28_2 c28_1 .rt := sqE _ _
def c28_3 : EC := .sq c28_0 c28_2
@[simp] theorem c28_3e : Sq c28_3 c28_0 c28_2 := sqE _ _
def c_group_Sample_28 : EC := c28_3
theorem k_28 : ecF Try.prog 28 = some (10, c_group_Sample_28, [.ce 0 21 true]) := by kernel_rfl

/-- tallystone/tallystoneref10.Few -/
@[simp] def c29_0l : List EO := [o 1 .box [t 0],
 o 2 .mv [b false]]
def c29_0 : EC := .rg c29_0l false
@[simp] theorem c29_0e : Rg c29_0 c29_0l false := rgE _ _
@[simp] def c29_1l : List EO := [o 3 .mv [i 0]]
def c29_1 : EC := .rg c29_1l false
@[simp] theorem c29_1e : Rg c29_1 c29_1l false := rgE _ _
@[simp] def c29_2l : List EO := [m 5 3,
 o 6 (.faddr 20) [t 1],
 o 7 (.load 1 false) [t 6],
 o 8 .lenL [t 7],
 o 9 (.bin .lss) [t 5, t 8]]
def c29_2 : EC := .rg c29_2l false
@[simp] theorem c29_2e : Rg c29_2 c29_2l false := rgE _ _
def c29_3 : EC := .cd (t 9) .skip (.ex 0)
@[simp] theorem c29_3e : Cd c29_3 (t 9) .skip (.ex 0) := cdE _ _ _
def c29_4 : EC := .sq c29_2 c29_3
@[simp] theorem c29_4e : Sq c29_4 c29_2 c29_3 := sqE _ _
@[simp] def c29_5l : List EO := [o 12 (.faddr 20) [t 1],
 o 13 (.load 1 false) [t 12],
 m 14 3,
 o 15 (.iaS 5) [t 13, t 14],
 o 16 (.load 5 true) [t 15],
 o 4 (.alloc [.t (.str []), .t (.str []), .snil, .snil, .t (.bool false)]) [],
 u (.store 5) [t 4, t 16]]
def c29_5 : EC := .rg c29_5l false
@[simp] theorem c29_5e : Rg c29_5 c29_5l false := rgE _ _
@[simp] def c29_6l : List EO := [o 17 (.faddr 2) [t 4],
 o 18 (.load 1 false) [t 17],
 o 19 .lenL [t 18],
 o 20 (.bin .gtr) [t 19, i 40],
 m 21 20,
 n 22 21 (.faddr 3) [t 4],
 n 23 21 (.load 1 false) [t 22],
 n 24 21 .lenL [t 23],
 n 25 21 (.bin .gtr) [t 24, i 60],
 o 26 .pick [t 21, b true, t 25],
 m 27 26,
 n 28 27 (.faddr 0) [t 4],
 n 29 27 (.load 1 false) [t 28],
 n 30 27 .lenS [t 29],
 n 31 27 (.faddr 1) [t 4],
 n 32 27 (.load 1 false) [t 31],
 n 33 27 .lenS [t 32],
 n 34 27 (.bin .add) [t 30, t 33],
 n 35 27 (.bin .gtr) [t 34, i 60],
 o 36 .pick [t 27, b true, t 35]]
def c29_6 : EC := .rg c29_6l false
@[simp] theorem c29_6e : Rg c29_6 c29_6l false := rgE _ _
@[simp] def c29_7l : List EO := [o 2 .mv [b false]]
def c29_7 : EC := .rg c29_7l false
@[simp] theorem c29_7e : Rg c29_7 c29_7l false := rgE _ _
def c29_8 : EC := .sq c29_7 .rt
@[simp] theorem c29_8e : Sq c29_8 c29_7 .rt := sqE _ _
def c29_9 : EC := .cd (t 36) c29_8 .skip
@[simp] theorem c29_9e : Cd c29_9 (t 36) c29_8 .skip := cdE _ _ _
def c29_10 : EC := .sq c29_6 c29_9
@[simp] theorem c29_10e : Sq c29_10 c29_6 c29_9 := sqE _ _
def c29_11 : EC := .sq c29_5 c29_10
@[simp] theorem c29_11e : Sq c29_11 c29_5 c29_10 := sqE _ _
def c29_12 : EC := .bk 1 c29_11
@[simp] theorem c29_12e : Bk c29_12 1 c29_11 := bkE _ _
@[simp] def c29_13l : List EO := [m 10 3,
 o 11 (.bin .add) [t 10, i 1],
 m 3 11]
def c29_13 : EC := .rg c29_13l false
@[simp] theorem c29_13e : Rg c29_13 c29_13l false := rgE _ _
def c29_14 : EC := .sq c29_12 c29_13
@[simp] theorem c29_14e : Sq c29_14 c29_12 c29_13 := sqE _ _
def c29_15 : EC := .sq c29_4 c29_14
@[simp] theorem c29_15e : Sq c29_15 c29_4 c29_14 := sqE _ _
def c29_16 : EC := .bk 0 (.lp c29_15)
@[simp] theorem c29_16e : Bk c29_16 0 (.lp c29_15) := bkE _ _
def c29_17 : EC := .sq c29_1 c29_16
@[simp] theorem c29_17e : Sq c29_17 c29_1 c29_16 := sqE _ _
@[simp] def c29_18l : List EO := [o 37 (.faddr 4) [t 1],
 o 38 (.load 1 false) [t 37],
 o 39 .lenL [t 38],
 o 40 (.bin .leq) [t 39, i 60],
 m 41 40,
 y 42 41 (.faddr 20) [t 1],
 y 43 41 (.load 1 false) [t 42],
 y 44 41 .lenL [t 43],
 y 45 41 (.bin .leq) [t 44, i 14],
 o 46 .pick [t 41, t 45, b false],
 m 47 46,
 y 48 47 (.faddr 0) [t 1],
 y 49 47 (.load 1 false) [t 48],
 y 50 47 .lenS [t 49],
 y 51 47 (.bin .leq) [t 50, i 20],
 o 52 .pick [t 47, t 51, b false],
 m 2 52]
def c29_18 : EC := .rg c29_18l false
@[simp] theorem c29_18e : Rg c29_18 c29_18l false := rgE _ _
def c29_19 : EC := .sq c29_18 .rt
@[simp] theorem c29_19e : Sq c29_19 c29_18 .rt := sqE _ _
def c29_20 : EC := .sq c29_17 c29_19
@[simp] theorem c29_20e : Sq c29_20 c29_17 c29_19 := sqE _ _
def c29_21 : EC := .sq c29_0 c29_20
@[simp] theorem c29_21e : Sq c29_21 c29_0 c29_20 := sqE _ _
def c_tallystoneref10_Few_29 : EC := c29_21
theorem k_29 : ecF Try.prog 29 = some (53, c_tallystoneref10_Few_29, [.tm 2]) := by kernel_rfl

/-- tallystone/tallystoneref52.Few -/
@[simp] def c30_0l : List EO := [o 1 .box [t 0],
 o 2 .mv [b false]]
def c30_0 : EC := .rg c30_0l false
@[simp] theorem c30_0e : Rg c30_0 c30_0l false := rgE _ _
@[simp] def c30_1l : List EO := [o 3 .mv [i 0]]
def c30_1 : EC := .rg c30_1l false
@[simp] theorem c30_1e : Rg c30_1 c30_1l false := rgE _ _
@[simp] def c30_2l : List EO := [m 7 3,
 o 8 (.faddr 1) [t 1],
 o 9 (.load 1 false) [t 8],
 o 10 .lenL [t 9],
 o 11 (.bin .lss) [t 7, t 10]]
def c30_2 : EC := .rg c30_2l false
@[simp] theorem c30_2e : Rg c30_2 c30_2l false := rgE _ _
def c30_3 : EC := .cd (t 11) .skip (.ex 0)
@[simp] theorem c30_3e : Cd c30_3 (t 11) .skip (.ex 0) := cdE _ _ _
def c30_4 : EC := .sq c30_2 c30_3
@[simp] theorem c30_4e : Sq c30_4 c30_2 c30_3 := sqE _ _
@[simp] def c30_5l : List EO := [o 14 (.faddr 1) [t 1],
 o 15 (.load 1 false) [t 14],
 m 16 3,
 o 17 (.iaS 7) [t 15, t 16],
 o 18 (.faddr 6) [t 17],
 o 19 (.load 1 false) [t 18],
 o 20 (.bin .gtr) [t 19, i 1125899906842624],
 m 21 20,
 n 22 21 (.faddr 1) [t 1],
 n 23 21 (.load 1 false) [t 22],
 n 24 21 .mv [t 3],
 n 25 21 (.iaS 7) [t 23, t 24],
 n 26 21 (.faddr 6) [t 25],
 n 27 21 (.load 1 false) [t 26],
 n 28 21 (.bin .lss) [t 27, i (-1125899906842624)],
 o 29 .pick [t 21, b true, t 28]]
def c30_5 : EC := .rg c30_5l false
@[simp] theorem c30_5e : Rg c30_5 c30_5l false := rgE _ _
@[simp] def c30_6l : List EO := [o 2 .mv [b false]]
def c30_6 : EC := .rg c30_6l false
@[simp] theorem c30_6e : Rg c30_6 c30_6l false := rgE _ _
def c30_7 : EC := .sq c30_6 .rt
@[simp] theorem c30_7e : Sq c30_7 c30_6 .rt := sqE _ _
def c30_8 : EC := .cd (t 29) c30_7 .skip
@[simp] theorem c30_8e : Cd c30_8 (t 29) c30_7 .skip := cdE _ _ _
def c30_9 : EC := .sq c30_5 c30_8
@[simp] theorem c30_9e : Sq c30_9 c30_5 c30_8 := sqE _ _
def c30_10 : EC := .bk 1 c30_9
@[simp] theorem c30_10e : Bk c30_10 1 c30_9 := bkE _ _
@[simp] def c30_11l : List EO := [m 12 3,
 o 13 (.bin .add) [t 12, i 1],
 m 3 13]
def c30_11 : EC := .rg c30_11l false
@[simp] theorem c30_11e : Rg c30_11 c30_11l false := rgE _ _
def c30_12 : EC := .sq c30_10 c30_11
@[simp] theorem c30_12e : Sq c30_12 c30_10 c30_11 := sqE _ _
def c30_13 : EC := .sq c30_4 c30_12
@[simp] theorem c30_13e : Sq c30_13 c30_4 c30_12 := sqE _ _
def c30_14 : EC := .bk 0 (.lp c30_13)
@[simp] theorem c30_14e : Bk c30_14 0 (.lp c30_13) := bkE _ _
def c30_15 : EC := .sq c30_1 c30_14
@[simp] theorem c30_15e : Sq c30_15 c30_1 c30_14 := sqE _ _
@[simp] def c30_16l : List EO := [o 4 .mv [i 0]]
def c30_16 : EC := .rg c30_16l false
@[simp] theorem c30_16e : Rg c30_16 c30_16l false := rgE _ _
@[simp] def c30_17l : List EO := [m 30 4,
 o 31 (.faddr 2) [t 1],
 o 32 (.load 1 false) [t 31],
 o 33 .lenL [t 32],
 o 34 (.bin .lss) [t 30, t 33]]
def c30_17 : EC := .rg c30_17l false
@[simp] theorem c30_17e : Rg c30_17 c30_17l false := rgE _ _
def c30_18 : EC := .cd (t 34) .skip (.ex 2)
@[simp] theorem c30_18e : Cd c30_18 (t 34) .skip (.ex 2) := cdE _ _ _
def c30_19 : EC := .sq c30_17 c30_18
@[simp] theorem c30_19e : Sq c30_19 c30_17 c30_18 := sqE _ _
@[simp] def c30_20l : List EO := [o 5 .mv [i 0]]
def c30_20 : EC := .rg c30_20l false
@[simp] theorem c30_20e : Rg c30_20 c30_20l false := rgE _ _
@[simp] def c30_21l : List EO := [m 37 5,
 o 38 (.faddr 2) [t 1],
 o 39 (.load 1 false) [t 38],
 m 40 4,
 o 41 (.iaS 5) [t 39, t 40],
 o 42 (.faddr 4) [t 41],
 o 43 (.load 1 false) [t 42],
 o 44 .lenL [t 43],
 o 45 (.bin .lss) [t 37, t 44]]
def c30_21 : EC := .rg c30_21l false
@[simp] theorem c30_21e : Rg c30_21 c30_21l false := rgE _ _
def c30_22 : EC := .cd (t 45) .skip (.ex 4)
@[simp] theorem c30_22e : Cd c30_22 (t 45) .skip (.ex 4) := cdE _ _ _
def c30_23 : EC := .sq c30_21 c30_22
@[simp] theorem c30_23e : Sq c30_23 c30_21 c30_22 := sqE _ _
@[simp] def c30_24l : List EO := [o 48 (.faddr 2) [t 1],
 o 49 (.load 1 false) [t 48],
 m 50 4,
 o 51 (.iaS 5) [t 49, t 50],
 o 52 (.faddr 4) [t 51],
 o 53 (.load 1 false) [t 52],
 m 54 5,
 o 55 (.iaS 2) [t 53, t 54],
 o 56 (.faddr 1) [t 55],
 o 57 (.load 1 false) [t 56],
 m 6 57]
def c30_24 : EC := .rg c30_24l false
@[simp] theorem c30_24e : Rg c30_24 c30_24l false := rgE _ _
@[simp] def c30_25l : List EO := [m 58 5,
 o 59 (.bin .geq) [t 58, i 10],
 m 60 59,
 n 61 60 .mv [t 6],
 n 62 60 (.bin .gtr) [t 61, i 1125899906842624],
 o 63 .pick [t 60, b true, t 62],
 m 64 63,
 n 65 64 .mv [t 6],
 n 66 64 (.bin .lss) [t 65, i (-1125899906842624)],
 o 67 .pick [t 64, b true, t 66]]
def c30_25 : EC := .rg c30_25l false
@[simp] theorem c30_25e : Rg c30_25 c30_25l false := rgE _ _
@[simp] def c30_26l : List EO := [o 2 .mv [b false]]
def c30_26 : EC := .rg c30_26l false
@[simp] theorem c30_26e : Rg c30_26 c30_26l false := rgE _ _
def c30_27 : EC := .sq c30_26 .rt
@[simp] theorem c30_27e : Sq c30_27 c30_26 .rt := sqE _ _
def c30_28 : EC := .cd (t 67) c30_27 .skip
@[simp] theorem c30_28e : Cd c30_28 (t 67) c30_27 .skip := cdE _ _ _
def c30_29 : EC := .sq c30_25 c30_28
@[simp] theorem c30_29e : Sq c30_29 c30_25 c30_28 := sqE _ _
def c30_30 : EC := .sq c30_24 c30_29
@[simp] theorem c30_30e : Sq c30_30 c30_24 c30_29 := sqE _ _
def c30_31 : EC := .bk 5 c30_30
@[simp] theorem c30_31e : Bk c30_31 5 c30_30 := bkE _ _
@[simp] def c30_32l : List EO := [m 46 5,
 o 47 (.bin .add) [t 46, i 1],
 m 5 47]
def c30_32 : EC := .rg c30_32l false
@[simp] theorem c30_32e : Rg c30_32 c30_32l false := rgE _ _
def c30_33 : EC := .sq c30_31 c30_32
@[simp] theorem c30_33e : Sq c30_33 c30_31 c30_32 := sqE _ _
def c30_34 : EC := .sq c30_23 c30_33
@[simp] theorem c30_34e : Sq c30_34 c30_23 c30_33 := sqE _ _
def c30_35 : EC := .bk 4 (.lp c30_34)
@[simp] theorem c30_35e : Bk c30_35 4 (.lp c30_34) := bkE _ _
def c30_36 : EC := .sq c30_20 c30_35
@[simp] theorem c30_36e : Sq c30_36 c30_20 c30_35 := sqE _ _
def c30_37 : EC := .bk 3 c30_36
@[simp] theorem c30_37e : Bk c30_37 3 c30_36 := bkE _ _
@[simp] def c30_38l : List EO := [m 35 4,
 o 36 (.bin .add) [t 35, i 1],
 m 4 36]
def c30_38 : EC := .rg c30_38l false
@[simp] theorem c30_38e : Rg c30_38 c30_38l false := rgE _ _
def c30_39 : EC := .sq c30_37 c30_38
@[simp] theorem c30_39e : Sq c30_39 c30_37 c30_38 := sqE _ _
def c30_40 : EC := .sq c30_19 c30_39
@[simp] theorem c30_40e : Sq c30_40 c30_19 c30_39 := sqE _ _
def c30_41 : EC := .bk 2 (.lp c30_40)
@[simp] theorem c30_41e : Bk c30_41 2 (.lp c30_40) := bkE _ _
def c30_42 : EC := .sq c30_16 c30_41
@[simp] theorem c30_42e : Sq c30_42 c30_16 c30_41 := sqE _ _
@[simp] def c30_43l : List EO := [o 68 (.faddr 1) [t 1],
 o 69 (.load 1 false) [t 68],
 o 70 .lenL [t 69],
 o 71 (.bin .leq) [t 70, i 150],
 m 72 71,
 y 73 72 (.faddr 2) [t 1],
 y 74 72 (.load 1 false) [t 73],
 y 75 72 .lenL [t 74],
 y 76 72 (.bin .leq) [t 75, i 60],
 o 77 .pick [t 72, t 76, b false],
 m 2 77]
def c30_43 : EC := .rg c30_43l false
@[simp] theorem c30_43e : Rg c30_43 c30_43l false := rgE _ _
def c30_44 : EC := .sq c30_43 .rt
@[simp] theorem c30_44e : Sq c30_44 c30_43 .rt := sqE _ _
def c30_45 : EC := .sq c30_42 c30_44
@[simp] theorem c30_45e : Sq c30_45 c30_42 c30_44 := sqE _ _
def c30_46 : EC := .sq c30_15 c30_45
@[simp] theorem c30_46e : Sq c30_46 c30_15 c30_45 := sqE _ _
def c30_47 : EC := .sq c30_0 c30_46
@[simp] theorem c30_47e : Sq c30_47 c30_0 c30_46 := sqE _ _
def c_tallystoneref52_Few_30 : EC := c30_47
theorem k_30 : ecF Try.prog 30 = some (78, c_tallystoneref52_Few_30, [.tm 2]) := by kernel_rfl

/-- tallystone/note.days -/
@[simp] def c31_0l : List EO := [o 2 .box [t 0],
 o 4 .mv [i 0],
 o 5 .mv [i 0],
 o 6 .mv [i 0]]
def c31_0 : EC := .rg c31_0l false
@[simp] theorem c31_0e : Rg c31_0 c31_0l false := rgE _ _
@[simp] def c31_1l : List EO := [o 7 (.load 21 true) [t 2],
 o 8 (.call 53) [t 7],
 o 9 (.un .not) [t 8]]
def c31_1 : EC := .rg c31_1l false
@[simp] theorem c31_1e : Rg c31_1 c31_1l false := rgE _ _
@[simp] def c31_2l : List EO := [o 4 .mv [i 0],
 o 5 .mv [i 0],
 o 6 .mv [i 1]]
def c31_2 : EC := .rg c31_2l false
@[simp] theorem c31_2e : Rg c31_2 c31_2l false := rgE _ _
def c31_3 : EC := .sq c31_2 .rt
@[simp] theorem c31_3e : Sq c31_3 c31_2 .rt := sqE _ _
def c31_4 : EC := .cd (t 9) c31_3 .skip
@[simp] theorem c31_4e : Cd c31_4 (t 9) c31_3 .skip := cdE _ _ _
def c31_5 : EC := .sq c31_1 c31_4
@[simp] theorem c31_5e : Sq c31_5 c31_1 c31_4 := sqE _ _
@[simp] def c31_6l : List EO := [o 11 (.faddr 1) [t 2],
 o 12 (.load 3 true) [t 11],
 m 13 1,
 o 14 (.call 54) [t 12, t 13],
 m 10 14,
 o 15 (.ext 0) [t 10],
 o 16 (.ext 1) [t 10],
 m 4 15,
 m 6 16]
def c31_6 : EC := .rg c31_6l false
@[simp] theorem c31_6e : Rg c31_6 c31_6l false := rgE _ _
@[simp] def c31_7l : List EO := [m 17 6,
 o 18 (.bin .neq) [t 17, i 0]]
def c31_7 : EC := .rg c31_7l false
@[simp] theorem c31_7e : Rg c31_7 c31_7l false := rgE _ _
@[simp] def c31_8l : List EO := [o 4 .mv [i 0],
 o 5 .mv [i 0],
 o 6 .mv [i 2]]
def c31_8 : EC := .rg c31_8l false
@[simp] theorem c31_8e : Rg c31_8 c31_8l false := rgE _ _
def c31_9 : EC := .sq c31_8 .rt
@[simp] theorem c31_9e : Sq c31_9 c31_8 .rt := sqE _ _
def c31_10 : EC := .cd (t 18) c31_9 .skip
@[simp] theorem c31_10e : Cd c31_10 (t 18) c31_9 .skip := cdE _ _ _
def c31_11 : EC := .sq c31_7 c31_10
@[simp] theorem c31_11e : Sq c31_11 c31_7 c31_10 := sqE _ _
def c31_12 : EC := .sq c31_6 c31_11
@[simp] theorem c31_12e : Sq c31_12 c31_6 c31_11 := sqE _ _
@[simp] def c31_13l : List EO := [o 20 (.faddr 1) [t 2],
 o 21 (.load 3 true) [t 20],
 m 22 1,
 o 23 (.call 55) [t 21, t 22],
 m 19 23,
 o 24 (.ext 0) [t 19],
 o 25 (.ext 1) [t 19],
 m 5 24]
def c31_13 : EC := .rg c31_13l false
@[simp] theorem c31_13e : Rg c31_13 c31_13l false := rgE _ _
@[simp] def c31_14l : List EO := [m 26 4,
 m 27 5,
 m 4 26,
 m 5 27,
 o 6 .mv [i 0]]
def c31_14 : EC := .rg c31_14l false
@[simp] theorem c31_14e : Rg c31_14 c31_14l false := rgE _ _
def c31_15 : EC := .sq c31_14 .rt
@[simp] theorem c31_15e : Sq c31_15 c31_14 .rt := sqE _ _
def c31_16 : EC := .sq c31_13 c31_15
@[simp] theorem c31_16e : Sq c31_16 c31_13 c31_15 := sqE _ _
def c31_17 : EC := .sq c31_12 c31_16
@[simp] theorem c31_17e : Sq c31_17 c31_12 c31_16 := sqE _ _
def c31_18 : EC := .sq c31_5 c31_17
@[simp] theorem c31_18e : Sq c31_18 c31_5 c31_17 := sqE _ _
def c31_19 : EC := .sq c31_0 c31_18
@[simp] theorem c31_19e : Sq c31_19 c31_0 c31_18 := sqE _ _
def c_note_days_31 : EC := c31_19
theorem k_31 : ecF Try.prog 31 = some (28, c_note_days_31, [.tm 4, .tm 5, .tm 6]) := by kernel_rfl

/-- tallystone/group.Account -/
@[simp] def c32_0l : List EO := [o 2 .box [t 0],
 o 3 .box [t 1],
 o 4 (.alloc [.t (.int .i64 0), .t (.int .i64 0), .t (.int .i64 0), .t (.int .i64 0)]) [],
 o 5 .mv [b false]]
def c32_0 : EC := .rg c32_0l false
@[simp] theorem c32_0e : Rg c32_0 c32_0l false := rgE _ _
@[simp] def c32_1l : List EO := [o 7 (.faddr 4) [t 2],
 o 8 (.load 1 false) [t 7],
 o 9 (.mkfn (.func 57)) [t 3],
 o 10 (.call 56) [t 8, t 9],
 m 6 10]
def c32_1 : EC := .rg c32_1l false
@[simp] theorem c32_1e : Rg c32_1 c32_1l false := rgE _ _
@[simp] def c32_2l : List EO := [m 11 6,
 o 12 (.bin .lss) [t 11, i 0]]
def c32_2 : EC := .rg c32_2l false
@[simp] theorem c32_2e : Rg c32_2 c32_2l false := rgE _ _
@[simp] def c32_3l : List EO := [o 13 (.build [.t (.int .i64 0), .t (.int .i64 0), .t (.int .i64 0), .t (.int .i64 0)] []) [],
 u (.store 4) [t 4, t 13],
 o 5 .mv [b false]]
def c32_3 : EC := .rg c32_3l false
@[simp] theorem c32_3e : Rg c32_3 c32_3l false := rgE _ _
def c32_4 : EC := .sq c32_3 .rt
@[simp] theorem c32_4e : Sq c32_4 c32_3 .rt := sqE _ _
def c32_5 : EC := .cd (t 12) c32_4 .skip
@[simp] theorem c32_5e : Cd c32_5 (t 12) c32_4 .skip := cdE _ _ _
def c32_6 : EC := .sq c32_2 c32_5
@[simp] theorem c32_6e : Sq c32_6 c32_2 c32_5 := sqE _ _
@[simp] def c32_7l : List EO := [o 14 (.faddr 4) [t 2],
 o 15 (.load 1 false) [t 14],
 m 16 6,
 o 17 (.iaS 4) [t 15, t 16],
 o 18 (.load 4 true) [t 17],
 u (.store 4) [t 4, t 18],
 o 5 .mv [b true]]
def c32_7 : EC := .rg c32_7l false
@[simp] theorem c32_7e : Rg c32_7 c32_7l false := rgE _ _
def c32_8 : EC := .sq c32_7 .rt
@[simp] theorem c32_8e : Sq c32_8 c32_7 .rt := sqE _ _
def c32_9 : EC := .sq c32_6 c32_8
@[simp] theorem c32_9e : Sq c32_9 c32_6 c32_8 := sqE _ _
def c32_10 : EC := .sq c32_1 c32_9
@[simp] theorem c32_10e : Sq c32_10 c32_1 c32_9 := sqE _ _
def c32_11 : EC := .sq c32_0 c32_10
@[simp] theorem c32_11e : Sq c32_11 c32_0 c32_10 := sqE _ _
def c_group_Account_32 : EC := c32_11
theorem k_32 : ecF Try.prog 32 = some (19, c_group_Account_32, [.ce 4 4 true, .tm 5]) := by kernel_rfl

/-- (tallystone/note.collector).before -/
@[simp] def c33_0l : List EO := [o 2 .box [t 0],
 o 3 .box [t 1]]
def c33_0 : EC := .rg c33_0l false
@[simp] theorem c33_0e : Rg c33_0 c33_0l false := rgE _ _
@[simp] def c33_1l : List EO := [o 6 (.faddr 1) [t 3],
 o 7 (.load 1 false) [t 6],
 o 8 .lenL [t 7],
 o 9 .mv [i 0]]
def c33_1 : EC := .rg c33_1l false
@[simp] theorem c33_1e : Rg c33_1 c33_1l false := rgE _ _
@[simp] def c33_2l : List EO := [o 10 (.bin .lss) [t 9, t 8]]
def c33_2 : EC := .rg c33_2l false
@[simp] theorem c33_2e : Rg c33_2 c33_2l false := rgE _ _
def c33_3 : EC := .cd (t 10) .skip (.ex 0)
@[simp] theorem c33_3e : Cd c33_3 (t 10) .skip (.ex 0) := cdE _ _ _
@[simp] def c33_4l : List EO := [o 11 (.iaS 7) [t 7, t 9],
 o 12 (.load 7 true) [t 11],
 o 5 (.alloc [.t (.int .i64 0), .t (.int .i64 0), .t (.int .i64 0), .t (.int .i64 0), .t (.int .i64 0), .t (.int .i64 0), .t (.int .i64 0)]) [],
 u (.store 7) [t 5, t 12]]
def c33_4 : EC := .rg c33_4l false
@[simp] theorem c33_4e : Rg c33_4 c33_4l false := rgE _ _
@[simp] def c33_5l : List EO := [o 13 (.faddr 3) [t 5],
 o 14 (.load 1 false) [t 13],
 o 15 (.faddr 0) [t 2],
 o 16 (.load 1 false) [t 15],
 o 17 .nilc [t 16],
 o 18 (.faddr 0) [t 17],
 o 19 (.load 1 false) [t 18],
 o 20 (.bin .eql) [t 14, t 19]]
def c33_5 : EC := .rg c33_5l true
@[simp] theorem c33_5e : Rg c33_5 c33_5l true := rgE _ _
@[simp] def c33_6l : List EO := [o 21 (.faddr 0) [t 2],
 o 22 (.load 1 false) [t 21],
 o 23 .nilc [t 22],
 o 24 (.faddr 1) [t 23],
 o 25 (.load 1 false) [t 24],
 o 26 (.faddr 6) [t 5],
 o 27 (.load 1 false) [t 26],
 o 28 (.bin .add) [t 25, t 27],
 o 29 .nilc [t 22],
 o 30 (.faddr 1) [t 29],
 u (.store 1) [t 30, t 28]]
def c33_6 : EC := .rg c33_6l true
@[simp] theorem c33_6e : Rg c33_6 c33_6l true := rgE _ _
@[simp] def c33_7l : List EO := [o 31 (.faddr 0) [t 2],
 o 32 (.load 1 false) [t 31],
 o 33 .nilc [t 32],
 o 34 (.faddr 3) [t 33],
 o 35 (.load 1 false) [t 34],
 o 36 (.faddr 6) [t 5],
 o 37 (.load 1 false) [t 36],
 o 38 (.bin .sub) [t 35, t 37],
 o 39 .nilc [t 32],
 o 40 (.faddr 3) [t 39],
 u (.store 1) [t 40, t 38]]
def c33_7 : EC := .rg c33_7l true
@[simp] theorem c33_7e : Rg c33_7 c33_7l true := rgE _ _
def c33_8 : EC := .sq c33_6 c33_7
@[simp] theorem c33_8e : Sq c33_8 c33_6 c33_7 := sqE _ _
def c33_9 : EC := .cd (t 20) c33_8 .skip
@[simp] theorem c33_9e : Cd c33_9 (t 20) c33_8 .skip := cdE _ _ _
def c33_10 : EC := .sq c33_5 c33_9
@[simp] theorem c33_10e : Sq c33_10 c33_5 c33_9 := sqE _ _
def c33_11 : EC := .sq c33_4 c33_10
@[simp] theorem c33_11e : Sq c33_11 c33_4 c33_10 := sqE _ _
def c33_12 : EC := .bk 1 c33_11
@[simp] theorem c33_12e : Bk c33_12 1 c33_11 := bkE _ _
@[simp] def c33_13l : List EO := [o 41 (.bin .add) [t 9, i 1],
 m 9 41]
def c33_13 : EC := .rg c33_13l false
@[simp] theorem c33_13e : Rg c33_13 c33_13l false := rgE _ _
def c33_14 : EC := .sq c33_12 c33_13
@[simp] theorem c33_14e : Sq c33_14 c33_12 c33_13 := sqE _ _
def c33_15 : EC := .sq c33_3 c33_14
@[simp] theorem c33_15e : Sq c33_15 c33_3 c33_14 := sqE _ _
def c33_16 : EC := .sq c33_2 c33_15
@[simp] theorem c33_16e : Sq c33_16 c33_2 c33_15 := sqE _ _
def c33_17 : EC := .bk 0 (.lp c33_16)
@[simp] theorem c33_17e : Bk c33_17 0 (.lp c33_16) := bkE _ _
def c33_18 : EC := .sq c33_1 c33_17
@[simp] theorem c33_18e : Sq c33_18 c33_1 c33_17 := sqE _ _
@[simp] def c33_19l : List EO := [o 42 (.load 3 true) [t 2],
 o 43 (.load 4 true) [t 3],
 o 44 (.faddr 0) [t 2],
 o 45 (.load 1 false) [t 44],
 o 46 .nilc [t 45],
 o 47 (.faddr 1) [t 46]]
def c33_19 : EC := .rg c33_19l true
@[simp] theorem c33_19e : Rg c33_19 c33_19l true := rgE _ _
@[simp] def c33_20l : List EO := [o 48 (.call 58) [t 42, t 43, t 47, i (-1)]]
def c33_20 : EC := .rg c33_20l false
@[simp] theorem c33_20e : Rg c33_20 c33_20l false := rgE _ _
def c33_21 : EC := .sq c33_19 c33_20
@[simp] theorem c33_21e : Sq c33_21 c33_19 c33_20 := sqE _ _
def c33_22 : EC := .sq c33_18 c33_21
@[simp] theorem c33_22e : Sq c33_22 c33_18 c33_21 := sqE _ _
def c33_23 : EC := .sq c33_0 c33_22
@[simp] theorem c33_23e : Sq c33_23 c33_0 c33_22 := sqE _ _
def c_note_collector__before_33 : EC := c33_23
theorem k_33 : ecF Try.prog 33 = some (49, c_note_collector__before_33, []) := by kernel_rfl

/-- (tallystone/note.collector).after -/
@[simp] def c34_0l : List EO := [o 2 .box [t 0],
 o 3 .box [t 1]]
def c34_0 : EC := .rg c34_0l false
@[simp] theorem c34_0e : Rg c34_0 c34_0l false := rgE _ _
@[simp] def c34_1l : List EO := [o 6 (.faddr 1) [t 3],
 o 7 (.load 1 false) [t 6],
 o 8 .lenL [t 7],
 o 9 .mv [i 0]]
def c34_1 : EC := .rg c34_1l false
@[simp] theorem c34_1e : Rg c34_1 c34_1l false := rgE _ _
@[simp] def c34_2l : List EO := [o 10 (.bin .lss) [t 9, t 8]]
def c34_2 : EC := .rg c34_2l false
@[simp] theorem c34_2e : Rg c34_2 c34_2l false := rgE _ _
def c34_3 : EC := .cd (t 10) .skip (.ex 0)
@[simp] theorem c34_3e : Cd c34_3 (t 10) .skip (.ex 0) := cdE _ _ _
@[simp] def c34_4l : List EO := [o 11 (.iaS 7) [t 7, t 9],
 o 12 (.load 7 true) [t 11],
 o 5 (.alloc [.t (.int .i64 0), .t (.int .i64 0), .t (.int .i64 0), .t (.int .i64 0), .t (.int .i64 0), .t (.int .i64 0), .t (.int .i64 0)]) [],
 u (.store 7) [t 5, t 12]]
def c34_4 : EC := .rg c34_4l false
@[simp] theorem c34_4e : Rg c34_4 c34_4l false := rgE _ _
@[simp] def c34_5l : List EO := [o 13 (.faddr 3) [t 5],
 o 14 (.load 1 false) [t 13],
 o 15 (.faddr 0) [t 2],
 o 16 (.load 1 false) [t 15],
 o 17 .nilc [t 16],
 o 18 (.faddr 0) [t 17],
 o 19 (.load 1 false) [t 18],
 o 20 (.bin .neq) [t 14, t 19]]
def c34_5 : EC := .rg c34_5l true
@[simp] theorem c34_5e : Rg c34_5 c34_5l true := rgE _ _
def c34_6 : EC := .cd (t 20) (.ex 1) .skip
@[simp] theorem c34_6e : Cd c34_6 (t 20) (.ex 1) .skip := cdE _ _ _
def c34_7 : EC := .sq c34_5 c34_6
@[simp] theorem c34_7e : Sq c34_7 c34_5 c34_6 := sqE _ _
@[simp] def c34_8l : List EO := [o 21 (.faddr 0) [t 2],
 o 22 (.load 1 false) [t 21],
 o 23 .nilc [t 22],
 o 24 (.faddr 4) [t 23],
 o 25 (.load 1 false) [t 24],
 o 26 (.faddr 6) [t 5],
 o 27 (.load 1 false) [t 26],
 o 28 (.bin .add) [t 25, t 27],
 o 29 .nilc [t 22],
 o 30 (.faddr 4) [t 29],
 u (.store 1) [t 30, t 28]]
def c34_8 : EC := .rg c34_8l true
@[simp] theorem c34_8e : Rg c34_8 c34_8l true := rgE _ _
@[simp] def c34_9l : List EO := [o 31 (.faddr 5) [t 5],
 o 32 (.load 1 false) [t 31],
 o 33 (.faddr 1) [t 2],
 o 34 (.load 1 false) [t 33],
 o 35 (.bin .geq) [t 32, t 34],
 m 36 35,
 y 37 36 (.faddr 5) [t 5],
 y 38 36 (.load 1 false) [t 37],
 y 39 36 (.faddr 2) [t 2],
 y 40 36 (.load 1 false) [t 39],
 y 41 36 (.bin .leq) [t 38, t 40],
 o 42 .pick [t 36, t 41, b false]]
def c34_9 : EC := .rg c34_9l false
@[simp] theorem c34_9e : Rg c34_9 c34_9l false := rgE _ _
@[simp] def c34_10l : List EO := [o 43 (.faddr 0) [t 2],
 o 44 (.load 1 false) [t 43],
 o 45 .nilc [t 44],
 o 46 (.faddr 2) [t 45],
 o 47 (.load 1 false) [t 46],
 o 48 (.faddr 6) [t 5],
 o 49 (.load 1 false) [t 48],
 o 50 (.bin .add) [t 47, t 49],
 o 51 .nilc [t 44],
 o 52 (.faddr 2) [t 51],
 u (.store 1) [t 52, t 50]]
def c34_10 : EC := .rg c34_10l true
@[simp] theorem c34_10e : Rg c34_10 c34_10l true := rgE _ _
@[simp] def c34_11l : List EO := [o 53 (.faddr 0) [t 2],
 o 54 (.load 1 false) [t 53],
 o 55 .nilc [t 54],
 o 56 (.faddr 3) [t 55],
 o 57 (.load 1 false) [t 56],
 o 58 (.faddr 6) [t 5],
 o 59 (.load 1 false) [t 58],
 o 60 (.bin .add) [t 57, t 59],
 o 61 .nilc [t 54],
 o 62 (.faddr 3) [t 61],
 u (.store 1) [t 62, t 60]]
def c34_11 : EC := .rg c34_11l true
@[simp] theorem c34_11e : Rg c34_11 c34_11l true := rgE _ _
def c34_12 : EC := .cd (t 42) c34_10 c34_11
@[simp] theorem c34_12e : Cd c34_12 (t 42) c34_10 c34_11 := cdE _ _ _
def c34_13 : EC := .sq c34_9 c34_12
@[simp] theorem c34_13e : Sq c34_13 c34_9 c34_12 := sqE _ _
def c34_14 : EC := .sq c34_8 c34_13
@[simp] theorem c34_14e : Sq c34_14 c34_8 c34_13 := sqE _ _
def c34_15 : EC := .sq c34_7 c34_14
@[simp] theorem c34_15e : Sq c34_15 c34_7 c34_14 := sqE _ _
def c34_16 : EC := .sq c34_4 c34_15
@[simp] theorem c34_16e : Sq c34_16 c34_4 c34_15 := sqE _ _
def c34_17 : EC := .bk 1 c34_16
@[simp] theorem c34_17e : Bk c34_17 1 c34_16 := bkE _ _
@[simp] def c34_18l : List EO := [o 63 (.bin .add) [t 9, i 1],
 m 9 63]
def c34_18 : EC := .rg c34_18l false
@[simp] theorem c34_18e : Rg c34_18 c34_18l false := rgE _ _
def c34_19 : EC := .sq c34_17 c34_18
@[simp] theorem c34_19e : Sq c34_19 c34_17 c34_18 := sqE _ _
def c34_20 : EC := .sq c34_3 c34_19
@[simp] theorem c34_20e : Sq c34_20 c34_3 c34_19 := sqE _ _
def c34_21 : EC := .sq c34_2 c34_20
@[simp] theorem c34_21e : Sq c34_21 c34_2 c34_20 := sqE _ _
def c34_22 : EC := .bk 0 (.lp c34_21)
@[simp] theorem c34_22e : Bk c34_22 0 (.lp c34_21) := bkE _ _
def c34_23 : EC := .sq c34_1 c34_22
@[simp] theorem c34_23e : Sq c34_23 c34_1 c34_22 := sqE _ _
@[simp] def c34_24l : List EO := [o 64 (.load 3 true) [t 2],
 o 65 (.load 4 true) [t 3],
 o 66 (.faddr 0) [t 2],
 o 67 (.load 1 false) [t 66],
 o 68 .nilc [t 67],
 o 69 (.faddr 4) [t 68]]
def c34_24 : EC := .rg c34_24l true
@[simp] theorem c34_24e : Rg c34_24 c34_24l true := rgE _ _
@[simp] def c34_25l : List EO := [o 70 (.call 58) [t 64, t 65, t 69, i 1]]
def c34_25 : EC := .rg c34_25l false
@[simp] theorem c34_25e : Rg c34_25 c34_25l false := rgE _ _
def c34_26 : EC := .sq c34_24 c34_25
@[simp] theorem c34_26e : Sq c34_26 c34_24 c34_25 := sqE _ _
def c34_27 : EC := .sq c34_23 c34_26
@[simp] theorem c34_27e : Sq c34_27 c34_23 c34_26 := sqE _ _
def c34_28 : EC := .sq c34_0 c34_27
@[simp] theorem c34_28e : Sq c34_28 c34_0 c34_27 := sqE _ _
def c_note_collector__after_34 : EC := c34_28
theorem k_34 : ecF Try.prog 34 = some (71, c_note_collector__after_34, []) := by kernel_rfl

/-- slices.ContainsFunc[[]int,int] -/
@[simp] def c35_0l : List EO := [o 4 .mv [b false]]
def c35_0 : EC := .rg c35_0l false
@[simp] theorem c35_0e : Rg c35_0 c35_0l false := rgE _ _
@[simp] def c35_1l : List EO := [m 5 0,
 m 6 1,
 o 7 (.call 59) [t 5, t 6],
 o 8 (.bin .geq) [t 7, i 0],
 m 4 8]
def c35_1 : EC := .rg c35_1l false
@[simp] theorem c35_1e : Rg c35_1 c35_1l false := rgE _ _
def c35_2 : EC := .sq c35_1 .rt
@[simp] theorem c35_2e : Sq c35_2 c35_1 .rt := sqE _ _
def c35_3 : EC := .sq c35_0 c35_2
@[simp] theorem c35_3e : Sq c35_3 c35_0 c35_2 := sqE _ _
def c_slices_ContainsFunc___int_int__35 : EC := c35_3
theorem k_35 : ecF Try.prog 35 = some (9, c_slices_ContainsFunc___int_int__35, [.tm 4]) := by kernel_rfl

/-- (tallystone/note.Note).figures -/
@[simp] def c36_0l : List EO := [o 1 .box [t 0],
 o 2 .mv [c (.snil)]]
def c36_0 : EC := .rg c36_0l false
@[simp] theorem c36_0e : Rg c36_0 c36_0l false := rgE _ _
@[simp] def c36_1l : List EO := [o 3 (.faddr 1) [t 1],
 o 4 (.load 1 false) [t 3],
 o 5 (.faddr 2) [t 1],
 o 6 (.load 1 false) [t 5],
 o 7 (.faddr 3) [t 1],
 o 8 (.load 1 false) [t 7],
 o 9 (.faddr 4) [t 1],
 o 10 (.load 1 false) [t 9],
 o 11 (.bsl 1) [t 4, t 6, t 8, t 10],
 o 12 (.faddr 5) [t 1],
 o 13 (.slA 11 1 false false) [t 12],
 o 14 (.app 3 1 8) [t 11, t 13],
 m 2 14]
def c36_1 : EC := .rg c36_1l true
@[simp] theorem c36_1e : Rg c36_1 c36_1l true := rgE _ _
def c36_2 : EC := .sq c36_1 .rt
@[simp] theorem c36_2e : Sq c36_2 c36_1 .rt := sqE _ _
def c36_3 : EC := .sq c36_0 c36_2
@[simp] theorem c36_3e : Sq c36_3 c36_0 c36_2 := sqE _ _
def c_note_Note__figures_36 : EC := c36_3
theorem k_36 : ecF Try.prog 36 = some (15, c_note_Note__figures_36, [.tm 2]) := by kernel_rfl

/-- (tallystone/note.Note).figures, with slices that grow in boxes -/
@[simp] def b36_0l : List EO := [o 1 .box [t 0],
 o 2 .mv [c (.snil)]]
def b36_0 : EC := .rg b36_0l false
@[simp] theorem b36_0e : Rg b36_0 b36_0l false := rgE _ _
@[simp] def b36_1l : List EO := [o 3 (.faddr 1) [t 1],
 o 4 (.load 1 false) [t 3],
 o 5 (.faddr 2) [t 1],
 o 6 (.load 1 false) [t 5],
 o 7 (.faddr 3) [t 1],
 o 8 (.load 1 false) [t 7],
 o 9 (.faddr 4) [t 1],
 o 10 (.load 1 false) [t 9],
 o 11 (.bsl 1) [t 4, t 6, t 8, t 10],
 o 12 (.faddr 5) [t 1],
 o 13 (.slA 11 1 false false) [t 12],
 o 14 (.appB 3 1 8) [t 11, t 13],
 m 2 14]
def b36_1 : EC := .rg b36_1l true
@[simp] theorem b36_1e : Rg b36_1 b36_1l true := rgE _ _
def b36_2 : EC := .sq b36_1 .rt
@[simp] theorem b36_2e : Sq b36_2 b36_1 .rt := sqE _ _
def b36_3 : EC := .sq b36_0 b36_2
@[simp] theorem b36_3e : Sq b36_3 b36_0 b36_2 := sqE _ _
def b_note_Note__figures_36 : EC := b36_3
theorem kb_36 : ecB Try.prog 36 = some (15, b_note_Note__figures_36, [.tm 2]) := by kernel_rfl

/-- tallystone/note.Make$1 -/
@[simp] def c37_0l : List EO := [o 2 .mv [b false]]
def c37_0 : EC := .rg c37_0l false
@[simp] theorem c37_0e : Rg c37_0 c37_0l false := rgE _ _
@[simp] def c37_1l : List EO := [m 3 0,
 o 4 (.call 38) [t 3],
 o 5 (.un .not) [t 4],
 m 2 5]
def c37_1 : EC := .rg c37_1l false
@[simp] theorem c37_1e : Rg c37_1 c37_1l false := rgE _ _
def c37_2 : EC := .sq c37_1 .rt
@[simp] theorem c37_2e : Sq c37_2 c37_1 .rt := sqE _ _
def c37_3 : EC := .sq c37_0 c37_2
@[simp] theorem c37_3e : Sq c37_3 c37_0 c37_2 := sqE _ _
def c_note_MakeS1_37 : EC := c37_3
theorem k_37 : ecF Try.prog 37 = some (6, c_note_MakeS1_37, [.tm 2]) := by kernel_rfl

/-- tallystone/money.Valid -/
@[simp] def c38_0l : List EO := [o 2 .mv [b false]]
def c38_0 : EC := .rg c38_0l false
@[simp] theorem c38_0e : Rg c38_0 c38_0l false := rgE _ _
@[simp] def c38_1l : List EO := [m 3 0,
 o 4 (.bin .geq) [t 3, i (-1000000000000)],
 m 5 4,
 y 6 5 .mv [t 0],
 y 7 5 (.bin .leq) [t 6, i 1000000000000],
 o 8 .pick [t 5, t 7, b false],
 m 2 8]
def c38_1 : EC := .rg c38_1l false
@[simp] theorem c38_1e : Rg c38_1 c38_1l false := rgE _ _
def c38_2 : EC := .sq c38_1 .rt
@[simp] theorem c38_2e : Sq c38_2 c38_1 .rt := sqE _ _
def c38_3 : EC := .sq c38_0 c38_2
@[simp] theorem c38_3e : Sq c38_3 c38_0 c38_2 := sqE _ _
def c_money_Valid_38 : EC := c38_3
theorem k_38 : ecF Try.prog 38 = some (9, c_money_Valid_38, [.tm 2]) := by kernel_rfl

/-- tallystone/tallystoneref52.items -/
@[simp] def c39_0l : List EO := [o 4 .box [t 0],
 o 8 .mv [i 0]]
def c39_0 : EC := .rg c39_0l false
@[simp] theorem c39_0e : Rg c39_0 c39_0l false := rgE _ _
@[simp] def c39_1l : List EO := [o 9 .mv [i 0]]
def c39_1 : EC := .rg c39_1l false
@[simp] theorem c39_1e : Rg c39_1 c39_1l false := rgE _ _
@[simp] def c39_2l : List EO := [o 10 .mv [i 0]]
def c39_2 : EC := .rg c39_2l false
@[simp] theorem c39_2e : Rg c39_2 c39_2l false := rgE _ _
@[simp] def c39_3l : List EO := [m 12 10,
 o 13 (.faddr 1) [t 4],
 o 14 (.load 1 false) [t 13],
 o 15 .lenL [t 14],
 o 16 (.bin .lss) [t 12, t 15]]
def c39_3 : EC := .rg c39_3l false
@[simp] theorem c39_3e : Rg c39_3 c39_3l false := rgE _ _
def c39_4 : EC := .cd (t 16) .skip (.ex 0)
@[simp] theorem c39_4e : Cd c39_4 (t 16) .skip (.ex 0) := cdE _ _ _
def c39_5 : EC := .sq c39_3 c39_4
@[simp] theorem c39_5e : Sq c39_5 c39_3 c39_4 := sqE _ _
@[simp] def c39_6l : List EO := [o 19 (.faddr 1) [t 4],
 o 20 (.load 1 false) [t 19],
 m 21 10,
 o 22 (.iaS 7) [t 20, t 21],
 o 23 (.load 7 true) [t 22],
 o 11 (.alloc [.t (.int .i64 0), .t (.int .i64 0), .t (.int .i64 0), .t (.int .i64 0), .t (.int .i64 0), .t (.int .i64 0), .t (.int .i64 0)]) [],
 u (.store 7) [t 11, t 23]]
def c39_6 : EC := .rg c39_6l false
@[simp] theorem c39_6e : Rg c39_6 c39_6l false := rgE _ _
@[simp] def c39_7l : List EO := [o 24 (.faddr 3) [t 11],
 o 25 (.load 1 false) [t 24],
 m 26 1,
 o 27 (.bin .eql) [t 25, t 26],
 m 28 27,
 y 29 28 (.faddr 5) [t 11],
 y 30 28 (.load 1 false) [t 29],
 y 31 28 .mv [t 2],
 y 32 28 (.bin .geq) [t 30, t 31],
 o 33 .pick [t 28, t 32, b false],
 m 34 33,
 y 35 34 (.faddr 5) [t 11],
 y 36 34 (.load 1 false) [t 35],
 y 37 34 .mv [t 3],
 y 38 34 (.bin .leq) [t 36, t 37],
 o 39 .pick [t 34, t 38, b false]]
def c39_7 : EC := .rg c39_7l false
@[simp] theorem c39_7e : Rg c39_7 c39_7l false := rgE _ _
@[simp] def c39_8l : List EO := [m 40 9,
 o 41 (.faddr 6) [t 11],
 o 42 (.load 1 false) [t 41],
 o 43 (.bin .add) [t 40, t 42],
 m 9 43]
def c39_8 : EC := .rg c39_8l false
@[simp] theorem c39_8e : Rg c39_8 c39_8l false := rgE _ _
def c39_9 : EC := .cd (t 39) c39_8 .skip
@[simp] theorem c39_9e : Cd c39_9 (t 39) c39_8 .skip := cdE _ _ _
def c39_10 : EC := .sq c39_7 c39_9
@[simp] theorem c39_10e : Sq c39_10 c39_7 c39_9 := sqE _ _
def c39_11 : EC := .sq c39_6 c39_10
@[simp] theorem c39_11e : Sq c39_11 c39_6 c39_10 := sqE _ _
def c39_12 : EC := .bk 1 c39_11
@[simp] theorem c39_12e : Bk c39_12 1 c39_11 := bkE _ _
@[simp] def c39_13l : List EO := [m 17 10,
 o 18 (.bin .add) [t 17, i 1],
 m 10 18]
def c39_13 : EC := .rg c39_13l false
@[simp] theorem c39_13e : Rg c39_13 c39_13l false := rgE _ _
def c39_14 : EC := .sq c39_12 c39_13
@[simp] theorem c39_14e : Sq c39_14 c39_12 c39_13 := sqE _ _
def c39_15 : EC := .sq c39_5 c39_14
@[simp] theorem c39_15e : Sq c39_15 c39_5 c39_14 := sqE _ _
def c39_16 : EC := .bk 0 (.lp c39_15)
@[simp] theorem c39_16e : Bk c39_16 0 (.lp c39_15) := bkE _ _
def c39_17 : EC := .sq c39_2 c39_16
@[simp] theorem c39_17e : Sq c39_17 c39_2 c39_16 := sqE _ _
@[simp] def c39_18l : List EO := [m 44 9,
 m 8 44]
def c39_18 : EC := .rg c39_18l false
@[simp] theorem c39_18e : Rg c39_18 c39_18l false := rgE _ _
def c39_19 : EC := .sq c39_18 .rt
@[simp] theorem c39_19e : Sq c39_19 c39_18 .rt := sqE _ _
def c39_20 : EC := .sq c39_17 c39_19
@[simp] theorem c39_20e : Sq c39_20 c39_17 c39_19 := sqE _ _
def c39_21 : EC := .sq c39_1 c39_20
@[simp] theorem c39_21e : Sq c39_21 c39_1 c39_20 := sqE _ _
def c39_22 : EC := .sq c39_0 c39_21
@[simp] theorem c39_22e : Sq c39_22 c39_0 c39_21 := sqE _ _
def c_tallystoneref52_items_39 : EC := c39_22
theorem k_39 : ecF Try.prog 39 = some (45, c_tallystoneref52_items_39, [.tm 8]) := by kernel_rfl

/-- tallystone/tallystoneref52.parts -/
@[simp] def c40_0l : List EO := [o 3 .box [t 0],
 o 6 .mv [i 0]]
def c40_0 : EC := .rg c40_0l false
@[simp] theorem c40_0e : Rg c40_0 c40_0l false := rgE _ _
@[simp] def c40_1l : List EO := [o 7 .mv [i 0]]
def c40_1 : EC := .rg c40_1l false
@[simp] theorem c40_1e : Rg c40_1 c40_1l false := rgE _ _
@[simp] def c40_2l : List EO := [o 8 .mv [i 0]]
def c40_2 : EC := .rg c40_2l false
@[simp] theorem c40_2e : Rg c40_2 c40_2l false := rgE _ _
@[simp] def c40_3l : List EO := [m 11 8,
 o 12 (.faddr 2) [t 3],
 o 13 (.load 1 false) [t 12],
 o 14 .lenL [t 13],
 o 15 (.bin .lss) [t 11, t 14]]
def c40_3 : EC := .rg c40_3l false
@[simp] theorem c40_3e : Rg c40_3 c40_3l false := rgE _ _
def c40_4 : EC := .cd (t 15) .skip (.ex 0)
@[simp] theorem c40_4e : Cd c40_4 (t 15) .skip (.ex 0) := cdE _ _ _
def c40_5 : EC := .sq c40_3 c40_4
@[simp] theorem c40_5e : Sq c40_5 c40_3 c40_4 := sqE _ _
@[simp] def c40_6l : List EO := [o 9 .mv [i 0]]
def c40_6 : EC := .rg c40_6l false
@[simp] theorem c40_6e : Rg c40_6 c40_6l false := rgE _ _
@[simp] def c40_7l : List EO := [m 18 9,
 o 19 (.faddr 2) [t 3],
 o 20 (.load 1 false) [t 19],
 m 21 8,
 o 22 (.iaS 5) [t 20, t 21],
 o 23 (.faddr 4) [t 22],
 o 24 (.load 1 false) [t 23],
 o 25 .lenL [t 24],
 o 26 (.bin .lss) [t 18, t 25]]
def c40_7 : EC := .rg c40_7l false
@[simp] theorem c40_7e : Rg c40_7 c40_7l false := rgE _ _
def c40_8 : EC := .cd (t 26) .skip (.ex 2)
@[simp] theorem c40_8e : Cd c40_8 (t 26) .skip (.ex 2) := cdE _ _ _
def c40_9 : EC := .sq c40_7 c40_8
@[simp] theorem c40_9e : Sq c40_9 c40_7 c40_8 := sqE _ _
@[simp] def c40_10l : List EO := [o 29 (.faddr 2) [t 3],
 o 30 (.load 1 false) [t 29],
 m 31 8,
 o 32 (.iaS 5) [t 30, t 31],
 o 33 (.faddr 4) [t 32],
 o 34 (.load 1 false) [t 33],
 m 35 9,
 o 36 (.iaS 2) [t 34, t 35],
 o 37 (.load 2 true) [t 36],
 o 10 (.alloc [.t (.int .i64 0), .t (.int .i64 0)]) [],
 u (.store 2) [t 10, t 37]]
def c40_10 : EC := .rg c40_10l false
@[simp] theorem c40_10e : Rg c40_10 c40_10l false := rgE _ _
@[simp] def c40_11l : List EO := [o 38 (.faddr 0) [t 10],
 o 39 (.load 1 false) [t 38],
 m 40 1,
 o 41 (.bin .eql) [t 39, t 40],
 m 42 41,
 y 43 42 .mv [t 2],
 y 44 42 (.bin .eql) [t 43, i (-1)],
 y 45 42 .mv [t 44],
 n 46 45 (.faddr 2) [t 3],
 n 47 45 (.load 1 false) [t 46],
 n 48 45 .mv [t 8],
 n 49 45 (.iaS 5) [t 47, t 48],
 n 50 45 (.faddr 0) [t 49],
 n 51 45 (.load 1 false) [t 50],
 n 52 45 .mv [t 2],
 n 53 45 (.bin .eql) [t 51, t 52],
 y 54 42 .pick [t 45, b true, t 53],
 o 55 .pick [t 42, t 54, b false]]
def c40_11 : EC := .rg c40_11l false
@[simp] theorem c40_11e : Rg c40_11 c40_11l false := rgE _ _
@[simp] def c40_12l : List EO := [m 56 7,
 o 57 (.faddr 1) [t 10],
 o 58 (.load 1 false) [t 57],
 o 59 (.bin .add) [t 56, t 58],
 m 7 59]
def c40_12 : EC := .rg c40_12l false
@[simp] theorem c40_12e : Rg c40_12 c40_12l false := rgE _ _
def c40_13 : EC := .cd (t 55) c40_12 .skip
@[simp] theorem c40_13e : Cd c40_13 (t 55) c40_12 .skip := cdE _ _ _
def c40_14 : EC := .sq c40_11 c40_13
@[simp] theorem c40_14e : Sq c40_14 c40_11 c40_13 := sqE _ _
def c40_15 : EC := .sq c40_10 c40_14
@[simp] theorem c40_15e : Sq c40_15 c40_10 c40_14 := sqE _ _
def c40_16 : EC := .bk 3 c40_15
@[simp] theorem c40_16e : Bk c40_16 3 c40_15 := bkE _ _
@[simp] def c40_17l : List EO := [m 27 9,
 o 28 (.bin .add) [t 27, i 1],
 m 9 28]
def c40_17 : EC := .rg c40_17l false
@[simp] theorem c40_17e : Rg c40_17 c40_17l false := rgE _ _
def c40_18 : EC := .sq c40_16 c40_17
@[simp] theorem c40_18e : Sq c40_18 c40_16 c40_17 := sqE _ _
def c40_19 : EC := .sq c40_9 c40_18
@[simp] theorem c40_19e : Sq c40_19 c40_9 c40_18 := sqE _ _
def c40_20 : EC := .bk 2 (.lp c40_19)
@[simp] theorem c40_20e : Bk c40_20 2 (.lp c40_19) := bkE _ _
def c40_21 : EC := .sq c40_6 c40_20
@[simp] theorem c40_21e : Sq c40_21 c40_6 c40_20 := sqE _ _
def c40_22 : EC := .bk 1 c40_21
@[simp] theorem c40_22e : Bk c40_22 1 c40_21 := bkE _ _
@[simp] def c40_23l : List EO := [m 16 8,
 o 17 (.bin .add) [t 16, i 1],
 m 8 17]
def c40_23 : EC := .rg c40_23l false
@[simp] theorem c40_23e : Rg c40_23 c40_23l false := rgE _ _
def c40_24 : EC := .sq c40_22 c40_23
@[simp] theorem c40_24e : Sq c40_24 c40_22 c40_23 := sqE _ _
def c40_25 : EC := .sq c40_5 c40_24
@[simp] theorem c40_25e : Sq c40_25 c40_5 c40_24 := sqE _ _
def c40_26 : EC := .bk 0 (.lp c40_25)
@[simp] theorem c40_26e : Bk c40_26 0 (.lp c40_25) := bkE _ _
def c40_27 : EC := .sq c40_2 c40_26
@[simp] theorem c40_27e : Sq c40_27 c40_2 c40_26 := sqE _ _
@[simp] def c40_28l : List EO := [m 60 7,
 m 6 60]
def c40_28 : EC := .rg c40_28l false
@[simp] theorem c40_28e : Rg c40_28 c40_28l false := rgE _ _
def c40_29 : EC := .sq c40_28 .rt
@[simp] theorem c40_29e : Sq c40_29 c40_28 .rt := sqE _ _
def c40_30 : EC := .sq c40_27 c40_29
@[simp] theorem c40_30e : Sq c40_30 c40_27 c40_29 := sqE _ _
def c40_31 : EC := .sq c40_1 c40_30
@[simp] theorem c40_31e : Sq c40_31 c40_1 c40_30 := sqE _ _
def c40_32 : EC := .sq c40_0 c40_31
@[simp] theorem c40_32e : Sq c40_32 c40_0 c40_31 := sqE _ _
def c_tallystoneref52_parts_40 : EC := c40_32
theorem k_40 : ecF Try.prog 40 = some (61, c_tallystoneref52_parts_40, [.tm 6]) := by kernel_rfl

/-- tallystone/tallystoneref04.Valid -/
@[simp] def c41_0l : List EO := [o 2 .mv [b false]]
def c41_0 : EC := .rg c41_0l false
@[simp] theorem c41_0e : Rg c41_0 c41_0l false := rgE _ _
@[simp] def c41_1l : List EO := [m 3 0,
 o 4 (.bin .geq) [t 3, i (-1000000000000)],
 m 5 4,
 y 6 5 .mv [t 0],
 y 7 5 (.bin .leq) [t 6, i 1000000000000],
 o 8 .pick [t 5, t 7, b false],
 m 2 8]
def c41_1 : EC := .rg c41_1l false
@[simp] theorem c41_1e : Rg c41_1 c41_1l false := rgE _ _
def c41_2 : EC := .sq c41_1 .rt
@[simp] theorem c41_2e : Sq c41_2 c41_1 .rt := sqE _ _
def c41_3 : EC := .sq c41_0 c41_2
@[simp] theorem c41_3e : Sq c41_3 c41_0 c41_2 := sqE _ _
def c_tallystoneref04_Valid_41 : EC := c41_3
theorem k_41 : ecF Try.prog 41 = some (9, c_tallystoneref04_Valid_41, [.tm 2]) := by kernel_rfl

/-- tallystone/tallystoneref10.books -/
@[simp] def c42_0l : List EO := [o 1 .box [t 0],
 o 2 .mv [b false]]
def c42_0 : EC := .rg c42_0l false
@[simp] theorem c42_0e : Rg c42_0 c42_0l false := rgE _ _
@[simp] def c42_1l : List EO := [o 9 (.faddr 0) [t 1],
 o 10 (.load 1 false) [t 9],
 o 11 (.call 60) [t 10],
 o 12 (.un .not) [t 11],
 m 13 12,
 n 14 13 (.faddr 1) [t 1],
 n 15 13 (.load 3 true) [t 14],
 n 16 13 (.call 61) [t 15],
 n 17 13 (.un .not) [t 16],
 o 18 .pick [t 13, b true, t 17],
 m 19 18,
 n 20 19 (.faddr 4) [t 1],
 n 21 19 (.load 1 false) [t 20],
 n 22 19 (.call 62) [t 21, b true],
 n 23 19 (.un .not) [t 22],
 o 24 .pick [t 19, b true, t 23]]
def c42_1 : EC := .rg c42_1l false
@[simp] theorem c42_1e : Rg c42_1 c42_1l false := rgE _ _
@[simp] def c42_2l : List EO := [o 2 .mv [b false]]
def c42_2 : EC := .rg c42_2l false
@[simp] theorem c42_2e : Rg c42_2 c42_2l false := rgE _ _
def c42_3 : EC := .sq c42_2 .rt
@[simp] theorem c42_3e : Sq c42_3 c42_2 .rt := sqE _ _
def c42_4 : EC := .cd (t 24) c42_3 .skip
@[simp] theorem c42_4e : Cd c42_4 (t 24) c42_3 .skip := cdE _ _ _
def c42_5 : EC := .sq c42_1 c42_4
@[simp] theorem c42_5e : Sq c42_5 c42_1 c42_4 := sqE _ _
@[simp] def c42_6l : List EO := [o 3 .mv [i 0]]
def c42_6 : EC := .rg c42_6l false
@[simp] theorem c42_6e : Rg c42_6 c42_6l false := rgE _ _
@[simp] def c42_7l : List EO := [m 25 3,
 o 26 (.faddr 4) [t 1],
 o 27 (.load 1 false) [t 26],
 o 28 .lenL [t 27],
 o 29 (.bin .lss) [t 25, t 28]]
def c42_7 : EC := .rg c42_7l false
@[simp] theorem c42_7e : Rg c42_7 c42_7l false := rgE _ _
def c42_8 : EC := .cd (t 29) .skip (.ex 0)
@[simp] theorem c42_8e : Cd c42_8 (t 29) .skip (.ex 0) := cdE _ _ _
def c42_9 : EC := .sq c42_7 c42_8
@[simp] theorem c42_9e : Sq c42_9 c42_7 c42_8 := sqE _ _
@[simp] def c42_10l : List EO := [o 32 (.faddr 4) [t 1],
 o 33 (.load 1 false) [t 32],
 m 34 3,
 o 35 (.iaS 4) [t 33, t 34],
 o 36 (.load 4 true) [t 35],
 o 37 (.call 63) [t 36],
 o 38 (.un .not) [t 37]]
def c42_10 : EC := .rg c42_10l false
@[simp] theorem c42_10e : Rg c42_10 c42_10l false := rgE _ _
@[simp] def c42_11l : List EO := [o 2 .mv [b false]]
def c42_11 : EC := .rg c42_11l false
@[simp] theorem c42_11e : Rg c42_11 c42_11l false := rgE _ _
def c42_12 : EC := .sq c42_11 .rt
@[simp] theorem c42_12e : Sq c42_12 c42_11 .rt := sqE _ _
def c42_13 : EC := .cd (t 38) c42_12 .skip
@[simp] theorem c42_13e : Cd c42_13 (t 38) c42_12 .skip := cdE _ _ _
def c42_14 : EC := .sq c42_10 c42_13
@[simp] theorem c42_14e : Sq c42_14 c42_10 c42_13 := sqE _ _
def c42_15 : EC := .bk 1 c42_14
@[simp] theorem c42_15e : Bk c42_15 1 c42_14 := bkE _ _
@[simp] def c42_16l : List EO := [m 30 3,
 o 31 (.bin .add) [t 30, i 1],
 m 3 31]
def c42_16 : EC := .rg c42_16l false
@[simp] theorem c42_16e : Rg c42_16 c42_16l false := rgE _ _
def c42_17 : EC := .sq c42_15 c42_16
@[simp] theorem c42_17e : Sq c42_17 c42_15 c42_16 := sqE _ _
def c42_18 : EC := .sq c42_9 c42_17
@[simp] theorem c42_18e : Sq c42_18 c42_9 c42_17 := sqE _ _
def c42_19 : EC := .bk 0 (.lp c42_18)
@[simp] theorem c42_19e : Bk c42_19 0 (.lp c42_18) := bkE _ _
def c42_20 : EC := .sq c42_6 c42_19
@[simp] theorem c42_20e : Sq c42_20 c42_6 c42_19 := sqE _ _
@[simp] def c42_21l : List EO := [o 39 (.faddr 5) [t 1],
 o 40 (.load 15 true) [t 39],
 o 41 (.call 64) [t 40],
 m 4 41]
def c42_21 : EC := .rg c42_21l false
@[simp] theorem c42_21e : Rg c42_21 c42_21l false := rgE _ _
@[simp] def c42_22l : List EO := [o 5 .mv [i 0]]
def c42_22 : EC := .rg c42_22l false
@[simp] theorem c42_22e : Rg c42_22 c42_22l false := rgE _ _
@[simp] def c42_23l : List EO := [m 42 5,
 m 43 4,
 o 44 .lenL [t 43],
 o 45 (.bin .lss) [t 42, t 44]]
def c42_23 : EC := .rg c42_23l false
@[simp] theorem c42_23e : Rg c42_23 c42_23l false := rgE _ _
def c42_24 : EC := .cd (t 45) .skip (.ex 2)
@[simp] theorem c42_24e : Cd c42_24 (t 45) .skip (.ex 2) := cdE _ _ _
def c42_25 : EC := .sq c42_23 c42_24
@[simp] theorem c42_25e : Sq c42_25 c42_23 c42_24 := sqE _ _
@[simp] def c42_26l : List EO := [o 49 (.load 21 true) [t 1],
 m 50 4,
 m 51 5,
 o 52 (.iaS 5) [t 50, t 51],
 o 53 (.faddr 1) [t 52],
 o 54 (.load 1 false) [t 53],
 o 55 (.call 26) [t 49, t 54],
 m 48 55,
 o 56 (.ext 0) [t 48],
 o 57 (.ext 1) [t 48],
 o 6 (.alloc [.t (.int .i64 0), .t (.int .i64 0), .t (.int .i64 0), .t (.int .i64 0)]) [],
 u (.store 4) [t 6, t 56],
 m 7 57]
def c42_26 : EC := .rg c42_26l true
@[simp] theorem c42_26e : Rg c42_26 c42_26l true := rgE _ _
@[simp] def c42_27l : List EO := [m 58 7,
 o 59 (.un .not) [t 58],
 m 60 59,
 n 61 60 (.faddr 1) [t 6],
 n 62 60 (.load 1 false) [t 61],
 n 63 60 .mv [t 4],
 n 64 60 .mv [t 5],
 n 65 60 (.iaS 5) [t 63, t 64],
 n 66 60 (.faddr 2) [t 65],
 n 67 60 (.load 1 false) [t 66],
 n 68 60 (.bin .neq) [t 62, t 67],
 o 69 .pick [t 60, b true, t 68],
 m 70 69,
 n 71 70 (.faddr 2) [t 6],
 n 72 70 (.load 1 false) [t 71],
 n 73 70 .mv [t 4],
 n 74 70 .mv [t 5],
 n 75 70 (.iaS 5) [t 73, t 74],
 n 76 70 (.faddr 3) [t 75],
 n 77 70 (.load 1 false) [t 76],
 n 78 70 (.bin .neq) [t 72, t 77],
 o 79 .pick [t 70, b true, t 78]]
def c42_27 : EC := .rg c42_27l true
@[simp] theorem c42_27e : Rg c42_27 c42_27l true := rgE _ _
@[simp] def c42_28l : List EO := [o 2 .mv [b false]]
def c42_28 : EC := .rg c42_28l false
@[simp] theorem c42_28e : Rg c42_28 c42_28l false := rgE _ _
def c42_29 : EC := .sq c42_28 .rt
@[simp] theorem c42_29e : Sq c42_29 c42_28 .rt := sqE _ _
def c42_30 : EC := .cd (t 79) c42_29 .skip
@[simp] theorem c42_30e : Cd c42_30 (t 79) c42_29 .skip := cdE _ _ _
def c42_31 : EC := .sq c42_27 c42_30
@[simp] theorem c42_31e : Sq c42_31 c42_27 c42_30 := sqE _ _
@[simp] def c42_32l : List EO := [o 8 .mv [i 0]]
def c42_32 : EC := .rg c42_32l false
@[simp] theorem c42_32e : Rg c42_32 c42_32l false := rgE _ _
@[simp] def c42_33l : List EO := [m 80 8,
 m 81 5,
 o 82 (.bin .lss) [t 80, t 81]]
def c42_33 : EC := .rg c42_33l false
@[simp] theorem c42_33e : Rg c42_33 c42_33l false := rgE _ _
def c42_34 : EC := .cd (t 82) .skip (.ex 4)
@[simp] theorem c42_34e : Cd c42_34 (t 82) .skip (.ex 4) := cdE _ _ _
def c42_35 : EC := .sq c42_33 c42_34
@[simp] theorem c42_35e : Sq c42_35 c42_33 c42_34 := sqE _ _
@[simp] def c42_36l : List EO := [m 85 4,
 m 86 8,
 o 87 (.iaS 5) [t 85, t 86],
 o 88 (.faddr 1) [t 87],
 o 89 (.load 1 false) [t 88],
 m 90 4,
 m 91 5,
 o 92 (.iaS 5) [t 90, t 91],
 o 93 (.faddr 1) [t 92],
 o 94 (.load 1 false) [t 93],
 o 95 (.bin .eql) [t 89, t 94]]
def c42_36 : EC := .rg c42_36l true
@[simp] theorem c42_36e : Rg c42_36 c42_36l true := rgE _ _
@[simp] def c42_37l : List EO := [o 2 .mv [b false]]
def c42_37 : EC := .rg c42_37l false
@[simp] theorem c42_37e : Rg c42_37 c42_37l false := rgE _ _
def c42_38 : EC := .sq c42_37 .rt
@[simp] theorem c42_38e : Sq c42_38 c42_37 .rt := sqE _ _
def c42_39 : EC := .cd (t 95) c42_38 .skip
@[simp] theorem c42_39e : Cd c42_39 (t 95) c42_38 .skip := cdE _ _ _
def c42_40 : EC := .sq c42_36 c42_39
@[simp] theorem c42_40e : Sq c42_40 c42_36 c42_39 := sqE _ _
def c42_41 : EC := .bk 5 c42_40
@[simp] theorem c42_41e : Bk c42_41 5 c42_40 := bkE _ _
@[simp] def c42_42l : List EO := [m 83 8,
 o 84 (.bin .add) [t 83, i 1],
 m 8 84]
def c42_42 : EC := .rg c42_42l false
@[simp] theorem c42_42e : Rg c42_42 c42_42l false := rgE _ _
def c42_43 : EC := .sq c42_41 c42_42
@[simp] theorem c42_43e : Sq c42_43 c42_41 c42_42 := sqE _ _
def c42_44 : EC := .sq c42_35 c42_43
@[simp] theorem c42_44e : Sq c42_44 c42_35 c42_43 := sqE _ _
def c42_45 : EC := .bk 4 (.lp c42_44)
@[simp] theorem c42_45e : Bk c42_45 4 (.lp c42_44) := bkE _ _
def c42_46 : EC := .sq c42_32 c42_45
@[simp] theorem c42_46e : Sq c42_46 c42_32 c42_45 := sqE _ _
def c42_47 : EC := .sq c42_31 c42_46
@[simp] theorem c42_47e : Sq c42_47 c42_31 c42_46 := sqE _ _
def c42_48 : EC := .sq c42_26 c42_47
@[simp] theorem c42_48e : Sq c42_48 c42_26 c42_47 := sqE _ _
def c42_49 : EC := .bk 3 c42_48
@[simp] theorem c42_49e : Bk c42_49 3 c42_48 := bkE _ _
@[simp] def c42_50l : List EO := [m 46 5,
 o 47 (.bin .add) [t 46, i 1],
 m 5 47]
def c42_50 : EC := .rg c42_50l false
@[simp] theorem c42_50e : Rg c42_50 c42_50l false := rgE _ _
def c42_51 : EC := .sq c42_49 c42_50
@[simp] theorem c42_51e : Sq c42_51 c42_49 c42_50 := sqE _ _
def c42_52 : EC := .sq c42_25 c42_51
@[simp] theorem c42_52e : Sq c42_52 c42_25 c42_51 := sqE _ _
def c42_53 : EC := .bk 2 (.lp c42_52)
@[simp] theorem c42_53e : Bk c42_53 2 (.lp c42_52) := bkE _ _
def c42_54 : EC := .sq c42_22 c42_53
@[simp] theorem c42_54e : Sq c42_54 c42_22 c42_53 := sqE _ _
@[simp] def c42_55l : List EO := [o 2 .mv [b true]]
def c42_55 : EC := .rg c42_55l false
@[simp] theorem c42_55e : Rg c42_55 c42_55l false := rgE _ _
def c42_56 : EC := .sq c42_55 .rt
@[simp] theorem c42_56e : Sq c42_56 c42_55 .rt := sqE _ _
def c42_57 : EC := .sq c42_54 c42_56
@[simp] theorem c42_57e : Sq c42_57 c42_54 c42_56 := sqE _ _
def c42_58 : EC := .sq c42_21 c42_57
@[simp] theorem c42_58e : Sq c42_58 c42_21 c42_57 := sqE _ _
def c42_59 : EC := .sq c42_20 c42_58
@[simp] theorem c42_59e : Sq c42_59 c42_20 c42_58 := sqE _ _
def c42_60 : EC := .sq c42_5 c42_59
@[simp] theorem c42_60e : Sq c42_60 c42_5 c42_59 := sqE _ _
def c42_61 : EC := .sq c42_0 c42_60
@[simp] theorem c42_61e : Sq c42_61 c42_0 c42_60 := sqE _ _
def c_tallystoneref10_books_42 : EC := c42_61
theorem k_42 : ecF Try.prog 42 = some (96, c_tallystoneref10_books_42, [.tm 2]) := by kernel_rfl

/-- tallystone/tallystoneref10.Find -/
@[simp] def c43_0l : List EO := [o 2 .box [t 0],
 o 4 .mv [i 0],
 o 5 .mv [b false]]
def c43_0 : EC := .rg c43_0l false
@[simp] theorem c43_0e : Rg c43_0 c43_0l false := rgE _ _
@[simp] def c43_1l : List EO := [o 6 .mv [i 0]]
def c43_1 : EC := .rg c43_1l false
@[simp] theorem c43_1e : Rg c43_1 c43_1l false := rgE _ _
@[simp] def c43_2l : List EO := [m 7 6,
 o 8 (.faddr 20) [t 2],
 o 9 (.load 1 false) [t 8],
 o 10 .lenL [t 9],
 o 11 (.bin .lss) [t 7, t 10]]
def c43_2 : EC := .rg c43_2l false
@[simp] theorem c43_2e : Rg c43_2 c43_2l false := rgE _ _
def c43_3 : EC := .cd (t 11) .skip (.ex 0)
@[simp] theorem c43_3e : Cd c43_3 (t 11) .skip (.ex 0) := cdE _ _ _
def c43_4 : EC := .sq c43_2 c43_3
@[simp] theorem c43_4e : Sq c43_4 c43_2 c43_3 := sqE _ _
@[simp] def c43_5l : List EO := [o 14 (.faddr 20) [t 2],
 o 15 (.load 1 false) [t 14],
 m 16 6,
 o 17 (.iaS 5) [t 15, t 16],
 o 18 (.faddr 0) [t 17],
 o 19 (.load 1 false) [t 18],
 m 20 1,
 o 21 (.bin .eql) [t 19, t 20]]
def c43_5 : EC := .rg c43_5l false
@[simp] theorem c43_5e : Rg c43_5 c43_5l false := rgE _ _
@[simp] def c43_6l : List EO := [m 22 6,
 m 4 22,
 o 5 .mv [b true]]
def c43_6 : EC := .rg c43_6l false
@[simp] theorem c43_6e : Rg c43_6 c43_6l false := rgE _ _
def c43_7 : EC := .sq c43_6 .rt
@[simp] theorem c43_7e : Sq c43_7 c43_6 .rt := sqE _ _
def c43_8 : EC := .cd (t 21) c43_7 .skip
@[simp] theorem c43_8e : Cd c43_8 (t 21) c43_7 .skip := cdE _ _ _
def c43_9 : EC := .sq c43_5 c43_8
@[simp] theorem c43_9e : Sq c43_9 c43_5 c43_8 := sqE _ _
def c43_10 : EC := .bk 1 c43_9
@[simp] theorem c43_10e : Bk c43_10 1 c43_9 := bkE _ _
@[simp] def c43_11l : List EO := [m 12 6,
 o 13 (.bin .add) [t 12, i 1],
 m 6 13]
def c43_11 : EC := .rg c43_11l false
@[simp] theorem c43_11e : Rg c43_11 c43_11l false := rgE _ _
def c43_12 : EC := .sq c43_10 c43_11
@[simp] theorem c43_12e : Sq c43_12 c43_10 c43_11 := sqE _ _
def c43_13 : EC := .sq c43_4 c43_12
@[simp] theorem c43_13e : Sq c43_13 c43_4 c43_12 := sqE _ _
def c43_14 : EC := .bk 0 (.lp c43_13)
@[simp] theorem c43_14e : Bk c43_14 0 (.lp c43_13) := bkE _ _
def c43_15 : EC := .sq c43_1 c43_14
@[simp] theorem c43_15e : Sq c43_15 c43_1 c43_14 := sqE _ _
@[simp] def c43_16l : List EO := [o 4 .mv [i 0],
 o 5 .mv [b false]]
def c43_16 : EC := .rg c43_16l false
@[simp] theorem c43_16e : Rg c43_16 c43_16l false := rgE _ _
def c43_17 : EC := .sq c43_16 .rt
@[simp] theorem c43_17e : Sq c43_17 c43_16 .rt := sqE _ _
def c43_18 : EC := .sq c43_15 c43_17
@[simp] theorem c43_18e : Sq c43_18 c43_15 c43_17 := sqE _ _
def c43_19 : EC := .sq c43_0 c43_18
@[simp] theorem c43_19e : Sq c43_19 c43_0 c43_18 := sqE _ _
def c_tallystoneref10_Find_43 : EC := c43_19
theorem k_43 : ecF Try.prog 43 = some (23, c_tallystoneref10_Find_43, [.tm 4, .tm 5]) := by kernel_rfl

/-- tallystone/tallystoneref10.entity -/
@[simp] def c44_0l : List EO := [o 2 .box [t 0],
 o 3 .box [t 1],
 o 4 .mv [b false]]
def c44_0 : EC := .rg c44_0l false
@[simp] theorem c44_0e : Rg c44_0 c44_0l false := rgE _ _
@[simp] def c44_1l : List EO := [o 8 (.faddr 0) [t 3],
 o 9 (.load 1 false) [t 8],
 o 10 (.call 65) [t 9],
 o 11 (.un .not) [t 10],
 m 12 11,
 n 13 12 (.faddr 1) [t 3],
 n 14 12 (.load 1 false) [t 13],
 n 15 12 (.call 60) [t 14],
 n 16 12 (.un .not) [t 15],
 o 17 .pick [t 12, b true, t 16],
 m 18 17,
 n 19 18 (.load 5 true) [t 3],
 n 20 18 (.faddr 4) [t 2],
 n 21 18 (.load 1 false) [t 20],
 n 22 18 (.call 66) [t 19, t 21],
 n 23 18 (.un .not) [t 22],
 o 24 .pick [t 18, b true, t 23]]
def c44_1 : EC := .rg c44_1l false
@[simp] theorem c44_1e : Rg c44_1 c44_1l false := rgE _ _
@[simp] def c44_2l : List EO := [o 4 .mv [b false]]
def c44_2 : EC := .rg c44_2l false
@[simp] theorem c44_2e : Rg c44_2 c44_2l false := rgE _ _
def c44_3 : EC := .sq c44_2 .rt
@[simp] theorem c44_3e : Sq c44_3 c44_2 .rt := sqE _ _
def c44_4 : EC := .cd (t 24) c44_3 .skip
@[simp] theorem c44_4e : Cd c44_4 (t 24) c44_3 .skip := cdE _ _ _
def c44_5 : EC := .sq c44_1 c44_4
@[simp] theorem c44_5e : Sq c44_5 c44_1 c44_4 := sqE _ _
@[simp] def c44_6l : List EO := [o 25 (.faddr 5) [t 2],
 o 26 (.load 15 true) [t 25],
 o 27 (.call 64) [t 26],
 m 5 27]
def c44_6 : EC := .rg c44_6l false
@[simp] theorem c44_6e : Rg c44_6 c44_6l false := rgE _ _
@[simp] def c44_7l : List EO := [o 6 .mv [i 0]]
def c44_7 : EC := .rg c44_7l false
@[simp] theorem c44_7e : Rg c44_7 c44_7l false := rgE _ _
@[simp] def c44_8l : List EO := [m 28 6,
 o 29 (.faddr 3) [t 3],
 o 30 (.load 1 false) [t 29],
 o 31 .lenL [t 30],
 o 32 (.bin .lss) [t 28, t 31]]
def c44_8 : EC := .rg c44_8l false
@[simp] theorem c44_8e : Rg c44_8 c44_8l false := rgE _ _
def c44_9 : EC := .cd (t 32) .skip (.ex 0)
@[simp] theorem c44_9e : Cd c44_9 (t 32) .skip (.ex 0) := cdE _ _ _
def c44_10 : EC := .sq c44_8 c44_9
@[simp] theorem c44_10e : Sq c44_10 c44_8 c44_9 := sqE _ _
@[simp] def c44_11l : List EO := [o 7 .mv [i 0]]
def c44_11 : EC := .rg c44_11l false
@[simp] theorem c44_11e : Rg c44_11 c44_11l false := rgE _ _
@[simp] def c44_12l : List EO := [m 35 7,
 m 36 5,
 o 37 .lenL [t 36],
 o 38 (.bin .lss) [t 35, t 37]]
def c44_12 : EC := .rg c44_12l false
@[simp] theorem c44_12e : Rg c44_12 c44_12l false := rgE _ _
def c44_13 : EC := .cd (t 38) .skip (.ex 2)
@[simp] theorem c44_13e : Cd c44_13 (t 38) .skip (.ex 2) := cdE _ _ _
def c44_14 : EC := .sq c44_12 c44_13
@[simp] theorem c44_14e : Sq c44_14 c44_12 c44_13 := sqE _ _
@[simp] def c44_15l : List EO := [o 41 (.faddr 3) [t 3],
 o 42 (.load 1 false) [t 41],
 m 43 6,
 o 44 (.iaS 3) [t 42, t 43],
 o 45 (.faddr 1) [t 44],
 o 46 (.load 1 false) [t 45],
 m 47 5,
 m 48 7,
 o 49 (.iaS 5) [t 47, t 48],
 o 50 (.faddr 1) [t 49],
 o 51 (.load 1 false) [t 50],
 o 52 (.bin .eql) [t 46, t 51],
 m 53 52,
 y 54 53 .mv [t 5],
 y 55 53 .mv [t 7],
 y 56 53 (.iaS 5) [t 54, t 55],
 y 57 53 (.faddr 4) [t 56],
 y 58 53 (.load 1 false) [t 57],
 y 59 53 (.un .not) [t 58],
 o 60 .pick [t 53, t 59, b false]]
def c44_15 : EC := .rg c44_15l true
@[simp] theorem c44_15e : Rg c44_15 c44_15l true := rgE _ _
@[simp] def c44_16l : List EO := [o 4 .mv [b false]]
def c44_16 : EC := .rg c44_16l false
@[simp] theorem c44_16e : Rg c44_16 c44_16l false := rgE _ _
def c44_17 : EC := .sq c44_16 .rt
@[simp] theorem c44_17e : Sq c44_17 c44_16 .rt := sqE _ _
def c44_18 : EC := .cd (t 60) c44_17 .skip
@[simp] theorem c44_18e : Cd c44_18 (t 60) c44_17 .skip := cdE _ _ _
def c44_19 : EC := .sq c44_15 c44_18
@[simp] theorem c44_19e : Sq c44_19 c44_15 c44_18 := sqE _ _
def c44_20 : EC := .bk 3 c44_19
@[simp] theorem c44_20e : Bk c44_20 3 c44_19 := bkE _ _
@[simp] def c44_21l : List EO := [m 39 7,
 o 40 (.bin .add) [t 39, i 1],
 m 7 40]
def c44_21 : EC := .rg c44_21l false
@[simp] theorem c44_21e : Rg c44_21 c44_21l false := rgE _ _
def c44_22 : EC := .sq c44_20 c44_21
@[simp] theorem c44_22e : Sq c44_22 c44_20 c44_21 := sqE _ _
def c44_23 : EC := .sq c44_14 c44_22
@[simp] theorem c44_23e : Sq c44_23 c44_14 c44_22 := sqE _ _
def c44_24 : EC := .bk 2 (.lp c44_23)
@[simp] theorem c44_24e : Bk c44_24 2 (.lp c44_23) := bkE _ _
def c44_25 : EC := .sq c44_11 c44_24
@[simp] theorem c44_25e : Sq c44_25 c44_11 c44_24 := sqE _ _
def c44_26 : EC := .bk 1 c44_25
@[simp] theorem c44_26e : Bk c44_26 1 c44_25 := bkE _ _
@[simp] def c44_27l : List EO := [m 33 6,
 o 34 (.bin .add) [t 33, i 1],
 m 6 34]
def c44_27 : EC := .rg c44_27l false
@[simp] theorem c44_27e : Rg c44_27 c44_27l false := rgE _ _
def c44_28 : EC := .sq c44_26 c44_27
@[simp] theorem c44_28e : Sq c44_28 c44_26 c44_27 := sqE _ _
def c44_29 : EC := .sq c44_10 c44_28
@[simp] theorem c44_29e : Sq c44_29 c44_10 c44_28 := sqE _ _
def c44_30 : EC := .bk 0 (.lp c44_29)
@[simp] theorem c44_30e : Bk c44_30 0 (.lp c44_29) := bkE _ _
def c44_31 : EC := .sq c44_7 c44_30
@[simp] theorem c44_31e : Sq c44_31 c44_7 c44_30 := sqE _ _
@[simp] def c44_32l : List EO := [o 4 .mv [b true]]
def c44_32 : EC := .rg c44_32l false
@[simp] theorem c44_32e : Rg c44_32 c44_32l false := rgE _ _
def c44_33 : EC := .sq c44_32 .rt
@[simp] theorem c44_33e : Sq c44_33 c44_32 .rt := sqE _ _
def c44_34 : EC := .sq c44_31 c44_33
@[simp] theorem c44_34e : Sq c44_34 c44_31 c44_33 := sqE _ _
def c44_35 : EC := .sq c44_6 c44_34
@[simp] theorem c44_35e : Sq c44_35 c44_6 c44_34 := sqE _ _
def c44_36 : EC := .sq c44_5 c44_35
@[simp] theorem c44_36e : Sq c44_36 c44_5 c44_35 := sqE _ _
def c44_37 : EC := .sq c44_0 c44_36
@[simp] theorem c44_37e : Sq c44_37 c44_0 c44_36 := sqE _ _
def c_tallystoneref10_entity_44 : EC := c44_37
theorem k_44 : ecF Try.prog 44 = some (61, c_tallystoneref10_entity_44, [.tm 4]) := by kernel_rfl

/-- tallystone/tallystoneref07.check -/
@[simp] def c45_0l : List EO := [o 2 .box [t 0],
 o 4 .mv [i 0]]
def c45_0 : EC := .rg c45_0l false
@[simp] theorem c45_0e : Rg c45_0 c45_0l false := rgE _ _
@[simp] def c45_1l : List EO := [o 5 (.load 3 true) [t 2],
 o 6 (.call 61) [t 5],
 o 7 (.un .not) [t 6]]
def c45_1 : EC := .rg c45_1l false
@[simp] theorem c45_1e : Rg c45_1 c45_1l false := rgE _ _
@[simp] def c45_2l : List EO := [o 4 .mv [i 1]]
def c45_2 : EC := .rg c45_2l false
@[simp] theorem c45_2e : Rg c45_2 c45_2l false := rgE _ _
def c45_3 : EC := .sq c45_2 .rt
@[simp] theorem c45_3e : Sq c45_3 c45_2 .rt := sqE _ _
def c45_4 : EC := .cd (t 7) c45_3 .skip
@[simp] theorem c45_4e : Cd c45_4 (t 7) c45_3 .skip := cdE _ _ _
def c45_5 : EC := .sq c45_1 c45_4
@[simp] theorem c45_5e : Sq c45_5 c45_1 c45_4 := sqE _ _
@[simp] def c45_6l : List EO := [m 8 1,
 o 9 (.bin .lss) [t 8, i 0],
 m 10 9,
 n 11 10 .mv [t 1],
 n 12 10 (.faddr 2) [t 2],
 n 13 10 (.load 1 false) [t 12],
 n 14 10 (.bin .geq) [t 11, t 13],
 o 15 .pick [t 10, b true, t 14]]
def c45_6 : EC := .rg c45_6l false
@[simp] theorem c45_6e : Rg c45_6 c45_6l false := rgE _ _
@[simp] def c45_7l : List EO := [o 4 .mv [i 2]]
def c45_7 : EC := .rg c45_7l false
@[simp] theorem c45_7e : Rg c45_7 c45_7l false := rgE _ _
def c45_8 : EC := .sq c45_7 .rt
@[simp] theorem c45_8e : Sq c45_8 c45_7 .rt := sqE _ _
def c45_9 : EC := .cd (t 15) c45_8 .skip
@[simp] theorem c45_9e : Cd c45_9 (t 15) c45_8 .skip := cdE _ _ _
def c45_10 : EC := .sq c45_6 c45_9
@[simp] theorem c45_10e : Sq c45_10 c45_6 c45_9 := sqE _ _
@[simp] def c45_11l : List EO := [o 4 .mv [i 0]]
def c45_11 : EC := .rg c45_11l false
@[simp] theorem c45_11e : Rg c45_11 c45_11l false := rgE _ _
def c45_12 : EC := .sq c45_11 .rt
@[simp] theorem c45_12e : Sq c45_12 c45_11 .rt := sqE _ _
def c45_13 : EC := .sq c45_10 c45_12
@[simp] theorem c45_13e : Sq c45_13 c45_10 c45_12 := sqE _ _
def c45_14 : EC := .sq c45_5 c45_13
@[simp] theorem c45_14e : Sq c45_14 c45_5 c45_13 := sqE _ _
def c45_15 : EC := .sq c45_0 c45_14
@[simp] theorem c45_15e : Sq c45_15 c45_0 c45_14 := sqE _ _
def c_tallystoneref07_check_45 : EC := c45_15
theorem k_45 : ecF Try.prog 45 = some (16, c_tallystoneref07_check_45, [.tm 4]) := by kernel_rfl

/-- tallystone/tallystoneref07.first -/
@[simp] def c46_0l : List EO := [o 2 .box [t 0],
 o 4 .mv [i 0],
 o 5 .mv [i 0]]
def c46_0 : EC := .rg c46_0l false
@[simp] theorem c46_0e : Rg c46_0 c46_0l false := rgE _ _
@[simp] def c46_1l : List EO := [o 9 (.faddr 0) [t 2],
 o 10 (.load 1 false) [t 9],
 o 11 (.faddr 1) [t 2],
 o 12 (.load 1 false) [t 11],
 o 13 (.call 67) [t 10, t 12, i 1],
 m 8 13,
 o 14 (.ext 0) [t 8],
 o 15 (.ext 1) [t 8],
 m 6 14,
 m 7 15]
def c46_1 : EC := .rg c46_1l false
@[simp] theorem c46_1e : Rg c46_1 c46_1l false := rgE _ _
@[simp] def c46_2l : List EO := [m 16 7,
 o 17 (.bin .neq) [t 16, i 0]]
def c46_2 : EC := .rg c46_2l false
@[simp] theorem c46_2e : Rg c46_2 c46_2l false := rgE _ _
@[simp] def c46_3l : List EO := [m 18 7,
 o 4 .mv [i 0],
 m 5 18]
def c46_3 : EC := .rg c46_3l false
@[simp] theorem c46_3e : Rg c46_3 c46_3l false := rgE _ _
def c46_4 : EC := .sq c46_3 .rt
@[simp] theorem c46_4e : Sq c46_4 c46_3 .rt := sqE _ _
def c46_5 : EC := .cd (t 17) c46_4 .skip
@[simp] theorem c46_5e : Cd c46_5 (t 17) c46_4 .skip := cdE _ _ _
def c46_6 : EC := .sq c46_2 c46_5
@[simp] theorem c46_6e : Sq c46_6 c46_2 c46_5 := sqE _ _
@[simp] def c46_7l : List EO := [m 19 6,
 m 20 1,
 o 21 (.call 68) [t 19, t 20],
 o 22 (.ext 0) [t 21],
 o 23 (.ext 1) [t 21],
 m 4 22,
 m 5 23]
def c46_7 : EC := .rg c46_7l false
@[simp] theorem c46_7e : Rg c46_7 c46_7l false := rgE _ _
def c46_8 : EC := .sq c46_7 .rt
@[simp] theorem c46_8e : Sq c46_8 c46_7 .rt := sqE _ _
def c46_9 : EC := .sq c46_6 c46_8
@[simp] theorem c46_9e : Sq c46_9 c46_6 c46_8 := sqE _ _
def c46_10 : EC := .sq c46_1 c46_9
@[simp] theorem c46_10e : Sq c46_10 c46_1 c46_9 := sqE _ _
def c46_11 : EC := .sq c46_0 c46_10
@[simp] theorem c46_11e : Sq c46_11 c46_0 c46_10 := sqE _ _
def c_tallystoneref07_first_46 : EC := c46_11
theorem k_46 : ecF Try.prog 46 = some (24, c_tallystoneref07_first_46, [.tm 4, .tm 5]) := by kernel_rfl

/-- tallystone/tallystoneref06.Civil -/
@[simp] def c47_0l : List EO := [o 2 .mv [i 0],
 o 3 .mv [i 0],
 o 4 .mv [i 0],
 o 5 .mv [i 0]]
def c47_0 : EC := .rg c47_0l false
@[simp] theorem c47_0e : Rg c47_0 c47_0l false := rgE _ _
@[simp] def c47_1l : List EO := [m 9 0,
 o 10 (.call 69) [t 9],
 o 11 (.un .not) [t 10]]
def c47_1 : EC := .rg c47_1l false
@[simp] theorem c47_1e : Rg c47_1 c47_1l false := rgE _ _
@[simp] def c47_2l : List EO := [o 2 .mv [i 0],
 o 3 .mv [i 0],
 o 4 .mv [i 0],
 o 5 .mv [i 2]]
def c47_2 : EC := .rg c47_2l false
@[simp] theorem c47_2e : Rg c47_2 c47_2l false := rgE _ _
def c47_3 : EC := .sq c47_2 .rt
@[simp] theorem c47_3e : Sq c47_3 c47_2 .rt := sqE _ _
def c47_4 : EC := .cd (t 11) c47_3 .skip
@[simp] theorem c47_4e : Cd c47_4 (t 11) c47_3 .skip := cdE _ _ _
def c47_5 : EC := .sq c47_1 c47_4
@[simp] theorem c47_5e : Sq c47_5 c47_1 c47_4 := sqE _ _
@[simp] def c47_6l : List EO := [m 12 0,
 o 13 (.bin .sub) [t 12, i (-25567)],
 o 6 .mv [i 1900],
 o 7 .mv [i 1],
 m 8 13]
def c47_6 : EC := .rg c47_6l false
@[simp] theorem c47_6e : Rg c47_6 c47_6l false := rgE _ _
@[simp] def c47_7l : List EO := [m 14 6,
 o 15 (.call 70) [t 14],
 m 16 15,
 y 17 16 .mv [t 8],
 y 18 16 (.bin .geq) [t 17, i 366],
 o 19 .pick [t 16, t 18, b false],
 m 20 19,
 n 21 20 .mv [t 6],
 n 22 20 (.call 70) [t 21],
 n 23 20 (.un .not) [t 22],
 n 24 20 .mv [t 23],
 y 25 24 .mv [t 8],
 y 26 24 (.bin .geq) [t 25, i 365],
 n 27 20 .pick [t 24, t 26, b false],
 o 28 .pick [t 20, b true, t 27]]
def c47_7 : EC := .rg c47_7l false
@[simp] theorem c47_7e : Rg c47_7 c47_7l false := rgE _ _
def c47_8 : EC := .cd (t 28) .skip (.ex 0)
@[simp] theorem c47_8e : Cd c47_8 (t 28) .skip (.ex 0) := cdE _ _ _
def c47_9 : EC := .sq c47_7 c47_8
@[simp] theorem c47_9e : Sq c47_9 c47_7 c47_8 := sqE _ _
@[simp] def c47_10l : List EO := [m 29 8,
 o 30 (.bin .sub) [t 29, i 365],
 m 8 30]
def c47_10 : EC := .rg c47_10l false
@[simp] theorem c47_10e : Rg c47_10 c47_10l false := rgE _ _
@[simp] def c47_11l : List EO := [m 31 6,
 o 32 (.call 70) [t 31]]
def c47_11 : EC := .rg c47_11l false
@[simp] theorem c47_11e : Rg c47_11 c47_11l false := rgE _ _
@[simp] def c47_12l : List EO := [m 33 8,
 o 34 (.bin .sub) [t 33, i 1],
 m 8 34]
def c47_12 : EC := .rg c47_12l false
@[simp] theorem c47_12e : Rg c47_12 c47_12l false := rgE _ _
def c47_13 : EC := .cd (t 32) c47_12 .skip
@[simp] theorem c47_13e : Cd c47_13 (t 32) c47_12 .skip := cdE _ _ _
def c47_14 : EC := .sq c47_11 c47_13
@[simp] theorem c47_14e : Sq c47_14 c47_11 c47_13 := sqE _ _
@[simp] def c47_15l : List EO := [m 35 6,
 o 36 (.bin .add) [t 35, i 1],
 m 6 36]
def c47_15 : EC := .rg c47_15l false
@[simp] theorem c47_15e : Rg c47_15 c47_15l false := rgE _ _
def c47_16 : EC := .sq c47_14 c47_15
@[simp] theorem c47_16e : Sq c47_16 c47_14 c47_15 := sqE _ _
def c47_17 : EC := .sq c47_10 c47_16
@[simp] theorem c47_17e : Sq c47_17 c47_10 c47_16 := sqE _ _
def c47_18 : EC := .bk 1 c47_17
@[simp] theorem c47_18e : Bk c47_18 1 c47_17 := bkE _ _
def c47_19 : EC := .sq c47_9 c47_18
@[simp] theorem c47_19e : Sq c47_19 c47_9 c47_18 := sqE _ _
def c47_20 : EC := .bk 0 (.lp c47_19)
@[simp] theorem c47_20e : Bk c47_20 0 (.lp c47_19) := bkE _ _
@[simp] def c47_21l : List EO := [m 37 8,
 m 38 6,
 m 39 7,
 o 40 (.call 48) [t 38, t 39],
 o 41 (.bin .geq) [t 37, t 40]]
def c47_21 : EC := .rg c47_21l false
@[simp] theorem c47_21e : Rg c47_21 c47_21l false := rgE _ _
def c47_22 : EC := .cd (t 41) .skip (.ex 2)
@[simp] theorem c47_22e : Cd c47_22 (t 41) .skip (.ex 2) := cdE _ _ _
def c47_23 : EC := .sq c47_21 c47_22
@[simp] theorem c47_23e : Sq c47_23 c47_21 c47_22 := sqE _ _
@[simp] def c47_24l : List EO := [m 42 8,
 m 43 6,
 m 44 7,
 o 45 (.call 48) [t 43, t 44],
 o 46 (.bin .sub) [t 42, t 45],
 m 8 46]
def c47_24 : EC := .rg c47_24l false
@[simp] theorem c47_24e : Rg c47_24 c47_24l false := rgE _ _
@[simp] def c47_25l : List EO := [m 47 7,
 o 48 (.bin .add) [t 47, i 1],
 m 7 48]
def c47_25 : EC := .rg c47_25l false
@[simp] theorem c47_25e : Rg c47_25 c47_25l false := rgE _ _
def c47_26 : EC := .sq c47_24 c47_25
@[simp] theorem c47_26e : Sq c47_26 c47_24 c47_25 := sqE _ _
def c47_27 : EC := .bk 3 c47_26
@[simp] theorem c47_27e : Bk c47_27 3 c47_26 := bkE _ _
def c47_28 : EC := .sq c47_23 c47_27
@[simp] theorem c47_28e : Sq c47_28 c47_23 c47_27 := sqE _ _
def c47_29 : EC := .bk 2 (.lp c47_28)
@[simp] theorem c47_29e : Bk c47_29 2 (.lp c47_28) := bkE _ _
@[simp] def c47_30l : List EO := [m 49 6,
 m 50 7,
 m 51 8,
 o 52 (.bin .add) [t 51, i 1],
 m 2 49,
 m 3 50,
 m 4 52,
 o 5 .mv [i 0]]
def c47_30 : EC := .rg c47_30l false
@[simp] theorem c47_30e : Rg c47_30 c47_30l false := rgE _ _
def c47_31 : EC := .sq c47_30 .rt
@[simp] theorem c47_31e : Sq c47_31 c47_30 .rt := sqE _ _
def c47_32 : EC := .sq c47_29 c47_31
@[simp] theorem c47_32e : Sq c47_32 c47_29 c47_31 := sqE _ _
def c47_33 : EC := .sq c47_20 c47_32
@[simp] theorem c47_33e : Sq c47_33 c47_20 c47_32 := sqE _ _
def c47_34 : EC := .sq c47_6 c47_33
@[simp] theorem c47_34e : Sq c47_34 c47_6 c47_33 := sqE _ _
def c47_35 : EC := .sq c47_5 c47_34
@[simp] theorem c47_35e : Sq c47_35 c47_5 c47_34 := sqE _ _
def c47_36 : EC := .sq c47_0 c47_35
@[simp] theorem c47_36e : Sq c47_36 c47_0 c47_35 := sqE _ _
def c_tallystoneref06_Civil_47 : EC := c47_36
theorem k_47 : ecF Try.prog 47 = some (53, c_tallystoneref06_Civil_47, [.tm 2, .tm 3, .tm 4, .tm 5]) := by kernel_rfl

/-- tallystone/tallystoneref06.Days -/
@[simp] def c48_0l : List EO := [o 4 .mv [i 0]]
def c48_0 : EC := .rg c48_0l false
@[simp] theorem c48_0e : Rg c48_0 c48_0l false := rgE _ _
@[simp] def c48_1l : List EO := [m 5 1,
 o 6 (.bin .lss) [t 5, i 1],
 m 7 6,
 n 8 7 .mv [t 1],
 n 9 7 (.bin .gtr) [t 8, i 12],
 o 10 .pick [t 7, b true, t 9],
 m 11 10,
 n 12 11 .mv [t 0],
 n 13 11 (.bin .lss) [t 12, i 1900],
 o 14 .pick [t 11, b true, t 13],
 m 15 14,
 n 16 15 .mv [t 0],
 n 17 15 (.bin .gtr) [t 16, i 2199],
 o 18 .pick [t 15, b true, t 17]]
def c48_1 : EC := .rg c48_1l false
@[simp] theorem c48_1e : Rg c48_1 c48_1l false := rgE _ _
@[simp] def c48_2l : List EO := [o 4 .mv [i 0]]
def c48_2 : EC := .rg c48_2l false
@[simp] theorem c48_2e : Rg c48_2 c48_2l false := rgE _ _
def c48_3 : EC := .sq c48_2 .rt
@[simp] theorem c48_3e : Sq c48_3 c48_2 .rt := sqE _ _
def c48_4 : EC := .cd (t 18) c48_3 .skip
@[simp] theorem c48_4e : Cd c48_4 (t 18) c48_3 .skip := cdE _ _ _
def c48_5 : EC := .sq c48_1 c48_4
@[simp] theorem c48_5e : Sq c48_5 c48_1 c48_4 := sqE _ _
@[simp] def c48_6l : List EO := [m 19 1,
 o 20 (.bin .eql) [t 19, i 2],
 m 21 20,
 y 22 21 .mv [t 0],
 y 23 21 (.call 70) [t 22],
 o 24 .pick [t 21, t 23, b false]]
def c48_6 : EC := .rg c48_6l false
@[simp] theorem c48_6e : Rg c48_6 c48_6l false := rgE _ _
@[simp] def c48_7l : List EO := [o 4 .mv [i 29]]
def c48_7 : EC := .rg c48_7l false
@[simp] theorem c48_7e : Rg c48_7 c48_7l false := rgE _ _
def c48_8 : EC := .sq c48_7 .rt
@[simp] theorem c48_8e : Sq c48_8 c48_7 .rt := sqE _ _
def c48_9 : EC := .cd (t 24) c48_8 .skip
@[simp] theorem c48_9e : Cd c48_9 (t 24) c48_8 .skip := cdE _ _ _
def c48_10 : EC := .sq c48_6 c48_9
@[simp] theorem c48_10e : Sq c48_10 c48_6 c48_9 := sqE _ _
@[simp] def c48_11l : List EO := [o 25 (.build [.t (.int .i64 0), .t (.int .i64 0), .t (.int .i64 0), .t (.int .i64 0), .t (.int .i64 0), .t (.int .i64 0), .t (.int .i64 0), .t (.int .i64 0), .t (.int .i64 0), .t (.int .i64 0), .t (.int .i64 0), .t (.int .i64 0)] [(0, 1), (1, 1), (2, 1), (3, 1), (4, 1), (5, 1), (6, 1), (7, 1), (8, 1), (9, 1), (10, 1), (11, 1)]) [i 31, i 28, i 31, i 30, i 31, i 30, i 31, i 31, i 30, i 31, i 30, i 31],
 m 26 1,
 o 27 (.bin .sub) [t 26, i 1],
 o 28 (.ixA 12 1 1 false) [t 25, t 27],
 m 4 28]
def c48_11 : EC := .rg c48_11l false
@[simp] theorem c48_11e : Rg c48_11 c48_11l false := rgE _ _
def c48_12 : EC := .sq c48_11 .rt
@[simp] theorem c48_12e : Sq c48_12 c48_11 .rt := sqE _ _
def c48_13 : EC := .sq c48_10 c48_12
@[simp] theorem c48_13e : Sq c48_13 c48_10 c48_12 := sqE _ _
def c48_14 : EC := .sq c48_5 c48_13
@[simp] theorem c48_14e : Sq c48_14 c48_5 c48_13 := sqE _ _
def c48_15 : EC := .sq c48_0 c48_14
@[simp] theorem c48_15e : Sq c48_15 c48_0 c48_14 := sqE _ _
def c_tallystoneref06_Days_48 : EC := c48_15
theorem k_48 : ecF Try.prog 48 = some (29, c_tallystoneref06_Days_48, [.tm 4]) := by kernel_rfl

/-- tallystone/note.All$1 -/
@[simp] def c49_0l : List EO := [o 2 .mv [b false]]
def c49_0 : EC := .rg c49_0l false
@[simp] theorem c49_0e : Rg c49_0 c49_0l false := rgE _ _
@[simp] def c49_1l : List EO := [m 3 0,
 o 4 (.bin .neq) [t 3, i 0],
 m 2 4]
def c49_1 : EC := .rg c49_1l false
@[simp] theorem c49_1e : Rg c49_1 c49_1l false := rgE _ _
def c49_2 : EC := .sq c49_1 .rt
@[simp] theorem c49_2e : Sq c49_2 c49_1 .rt := sqE _ _
def c49_3 : EC := .sq c49_0 c49_2
@[simp] theorem c49_3e : Sq c49_3 c49_0 c49_2 := sqE _ _
def c_note_AllS1_49 : EC := c49_3
theorem k_49 : ecF Try.prog 49 = some (5, c_note_AllS1_49, [.tm 2]) := by kernel_rfl

/-- tallystone/tallystoneref08.Find -/
@[simp] def c50_0l : List EO := [o 4 (.alloc [.t (.int .i64 0), .t (.int .i64 0), .t (.int .i64 0), .t (.int .i64 0)]) [],
 o 5 .mv [b false]]
def c50_0 : EC := .rg c50_0l false
@[simp] theorem c50_0e : Rg c50_0 c50_0l false := rgE _ _
@[simp] def c50_1l : List EO := [o 6 .mv [i 0]]
def c50_1 : EC := .rg c50_1l false
@[simp] theorem c50_1e : Rg c50_1 c50_1l false := rgE _ _
@[simp] def c50_2l : List EO := [m 7 6,
 m 8 0,
 o 9 .lenL [t 8],
 o 10 (.bin .lss) [t 7, t 9]]
def c50_2 : EC := .rg c50_2l false
@[simp] theorem c50_2e : Rg c50_2 c50_2l false := rgE _ _
def c50_3 : EC := .cd (t 10) .skip (.ex 0)
@[simp] theorem c50_3e : Cd c50_3 (t 10) .skip (.ex 0) := cdE _ _ _
def c50_4 : EC := .sq c50_2 c50_3
@[simp] theorem c50_4e : Sq c50_4 c50_2 c50_3 := sqE _ _
@[simp] def c50_5l : List EO := [m 13 0,
 m 14 6,
 o 15 (.iaS 4) [t 13, t 14],
 o 16 (.faddr 0) [t 15],
 o 17 (.load 1 false) [t 16],
 m 18 1,
 o 19 (.bin .eql) [t 17, t 18]]
def c50_5 : EC := .rg c50_5l false
@[simp] theorem c50_5e : Rg c50_5 c50_5l false := rgE _ _
@[simp] def c50_6l : List EO := [m 20 0,
 m 21 6,
 o 22 (.iaS 4) [t 20, t 21],
 o 23 (.load 4 true) [t 22],
 u (.store 4) [t 4, t 23],
 o 5 .mv [b true]]
def c50_6 : EC := .rg c50_6l false
@[simp] theorem c50_6e : Rg c50_6 c50_6l false := rgE _ _
def c50_7 : EC := .sq c50_6 .rt
@[simp] theorem c50_7e : Sq c50_7 c50_6 .rt := sqE _ _
def c50_8 : EC := .cd (t 19) c50_7 .skip
@[simp] theorem c50_8e : Cd c50_8 (t 19) c50_7 .skip := cdE _ _ _
def c50_9 : EC := .sq c50_5 c50_8
@[simp] theorem c50_9e : Sq c50_9 c50_5 c50_8 := sqE _ _
def c50_10 : EC := .bk 1 c50_9
@[simp] theorem c50_10e : Bk c50_10 1 c50_9 := bkE _ _
@[simp] def c50_11l : List EO := [m 11 6,
 o 12 (.bin .add) [t 11, i 1],
 m 6 12]
def c50_11 : EC := .rg c50_11l false
@[simp] theorem c50_11e : Rg c50_11 c50_11l false := rgE _ _
def c50_12 : EC := .sq c50_10 c50_11
@[simp] theorem c50_12e : Sq c50_12 c50_10 c50_11 := sqE _ _
def c50_13 : EC := .sq c50_4 c50_12
@[simp] theorem c50_13e : Sq c50_13 c50_4 c50_12 := sqE _ _
def c50_14 : EC := .bk 0 (.lp c50_13)
@[simp] theorem c50_14e : Bk c50_14 0 (.lp c50_13) := bkE _ _
def c50_15 : EC := .sq c50_1 c50_14
@[simp] theorem c50_15e : Sq c50_15 c50_1 c50_14 := sqE _ _
@[simp] def c50_16l : List EO := [o 24 (.build [.t (.int .i64 0), .t (.int .i64 0), .t (.int .i64 0), .t (.int .i64 0)] []) [],
 u (.store 4) [t 4, t 24],
 o 5 .mv [b false]]
def c50_16 : EC := .rg c50_16l false
@[simp] theorem c50_16e : Rg c50_16 c50_16l false := rgE _ _
def c50_17 : EC := .sq c50_16 .rt
@[simp] theorem c50_17e : Sq c50_17 c50_16 .rt := sqE _ _
def c50_18 : EC := .sq c50_15 c50_17
@[simp] theorem c50_18e : Sq c50_18 c50_15 c50_17 := sqE _ _
def c50_19 : EC := .sq c50_0 c50_18
@[simp] theorem c50_19e : Sq c50_19 c50_0 c50_18 := sqE _ _
def c_tallystoneref08_Find_50 : EC := c50_19
theorem k_50 : ecF Try.prog 50 = some (25, c_tallystoneref08_Find_50, [.ce 4 4 true, .tm 5]) := by kernel_rfl

/-- tallystone/group.sampleChart -/
@[simp] def c51_0l : List EO := [o 0 .mv [c (.snil)]]
def c51_0 : EC := .rg c51_0l false
@[simp] theorem c51_0e : Rg c51_0 c51_0l false := rgE _ _
@[simp] def c51_1l : List EO := [o 1 .mv [c (.snil)]]
def c51_1 : EC := .rg c51_1l false
@[simp] theorem c51_1e : Rg c51_1 c51_1l false := rgE _ _
@[simp] def c51_2l : List EO := [o 12 (.build [.t (.int .i64 0), .t (.int .i64 0)] [(0, 1), (1, 1)]) [i 1000, i 0],
 o 13 (.build [.t (.int .i64 0), .t (.int .i64 0)] [(0, 1), (1, 1)]) [i 1010, i 1000],
 o 14 (.build [.t (.int .i64 0), .t (.int .i64 0)] [(0, 1), (1, 1)]) [i 1100, i 1000],
 o 15 (.build [.t (.int .i64 0), .t (.int .i64 0)] [(0, 1), (1, 1)]) [i 1200, i 1000],
 o 16 (.bsl 2) [t 12, t 13, t 14, t 15],
 o 17 .lenL [t 16],
 o 18 .mv [i 0]]
def c51_2 : EC := .rg c51_2l false
@[simp] theorem c51_2e : Rg c51_2 c51_2l false := rgE _ _
@[simp] def c51_3l : List EO := [o 19 (.bin .lss) [t 18, t 17]]
def c51_3 : EC := .rg c51_3l false
@[simp] theorem c51_3e : Rg c51_3 c51_3l false := rgE _ _
def c51_4 : EC := .cd (t 19) .skip (.ex 0)
@[simp] theorem c51_4e : Cd c51_4 (t 19) .skip (.ex 0) := cdE _ _ _
@[simp] def c51_5l : List EO := [o 20 (.iaS 2) [t 16, t 18],
 o 21 (.load 2 true) [t 20],
 o 3 (.alloc [.t (.int .i64 0), .t (.int .i64 0)]) [],
 u (.store 2) [t 3, t 21]]
def c51_5 : EC := .rg c51_5l false
@[simp] theorem c51_5e : Rg c51_5 c51_5l false := rgE _ _
@[simp] def c51_6l : List EO := [m 22 1,
 o 23 (.iaA 2 1) [t 3, i 0],
 o 24 (.load 1 false) [t 23],
 o 25 (.iaA 2 1) [t 3, i 1],
 o 26 (.load 1 false) [t 25],
 o 27 (.call 71) [t 24, i 1, i 1, t 26],
 o 28 (.bsl 4) [t 27],
 o 29 (.app 78 4 32) [t 22, t 28],
 m 1 29]
def c51_6 : EC := .rg c51_6l false
@[simp] theorem c51_6e : Rg c51_6 c51_6l false := rgE _ _
def c51_7 : EC := .sq c51_5 c51_6
@[simp] theorem c51_7e : Sq c51_7 c51_5 c51_6 := sqE _ _
def c51_8 : EC := .bk 1 c51_7
@[simp] theorem c51_8e : Bk c51_8 1 c51_7 := bkE _ _
@[simp] def c51_9l : List EO := [o 30 (.bin .add) [t 18, i 1],
 m 18 30]
def c51_9 : EC := .rg c51_9l false
@[simp] theorem c51_9e : Rg c51_9 c51_9l false := rgE _ _
def c51_10 : EC := .sq c51_8 c51_9
@[simp] theorem c51_10e : Sq c51_10 c51_8 c51_9 := sqE _ _
def c51_11 : EC := .sq c51_4 c51_10
@[simp] theorem c51_11e : Sq c51_11 c51_4 c51_10 := sqE _ _
def c51_12 : EC := .sq c51_3 c51_11
@[simp] theorem c51_12e : Sq c51_12 c51_3 c51_11 := sqE _ _
def c51_13 : EC := .bk 0 (.lp c51_12)
@[simp] theorem c51_13e : Bk c51_13 0 (.lp c51_12) := bkE _ _
def c51_14 : EC := .sq c51_2 c51_13
@[simp] theorem c51_14e : Sq c51_14 c51_2 c51_13 := sqE _ _
@[simp] def c51_15l : List EO := [o 31 (.bsl 1) [i 1300, i 1500, i 1600, i 1700],
 o 32 .lenL [t 31],
 o 33 .mv [i 0]]
def c51_15 : EC := .rg c51_15l false
@[simp] theorem c51_15e : Rg c51_15 c51_15l false := rgE _ _
@[simp] def c51_16l : List EO := [o 34 (.bin .lss) [t 33, t 32]]
def c51_16 : EC := .rg c51_16l false
@[simp] theorem c51_16e : Rg c51_16 c51_16l false := rgE _ _
def c51_17 : EC := .cd (t 34) .skip (.ex 2)
@[simp] theorem c51_17e : Cd c51_17 (t 34) .skip (.ex 2) := cdE _ _ _
@[simp] def c51_18l : List EO := [o 35 (.iaS 1) [t 31, t 33],
 o 36 (.load 1 false) [t 35],
 m 5 36]
def c51_18 : EC := .rg c51_18l false
@[simp] theorem c51_18e : Rg c51_18 c51_18l false := rgE _ _
@[simp] def c51_19l : List EO := [m 37 1,
 m 38 5,
 o 39 (.call 71) [t 38, i 1, i 3, i 0],
 o 40 (.bsl 4) [t 39],
 o 41 (.app 78 4 32) [t 37, t 40],
 m 1 41]
def c51_19 : EC := .rg c51_19l false
@[simp] theorem c51_19e : Rg c51_19 c51_19l false := rgE _ _
def c51_20 : EC := .sq c51_18 c51_19
@[simp] theorem c51_20e : Sq c51_20 c51_18 c51_19 := sqE _ _
def c51_21 : EC := .bk 3 c51_20
@[simp] theorem c51_21e : Bk c51_21 3 c51_20 := bkE _ _
@[simp] def c51_22l : List EO := [o 42 (.bin .add) [t 33, i 1],
 m 33 42]
def c51_22 : EC := .rg c51_22l false
@[simp] theorem c51_22e : Rg c51_22 c51_22l false := rgE _ _
def c51_23 : EC := .sq c51_21 c51_22
@[simp] theorem c51_23e : Sq c51_23 c51_21 c51_22 := sqE _ _
def c51_24 : EC := .sq c51_17 c51_23
@[simp] theorem c51_24e : Sq c51_24 c51_17 c51_23 := sqE _ _
def c51_25 : EC := .sq c51_16 c51_24
@[simp] theorem c51_25e : Sq c51_25 c51_16 c51_24 := sqE _ _
def c51_26 : EC := .bk 2 (.lp c51_25)
@[simp] theorem c51_26e : Bk c51_26 2 (.lp c51_25) := bkE _ _
def c51_27 : EC := .sq c51_15 c51_26
@[simp] theorem c51_27e : Sq c51_27 c51_15 c51_26 := sqE _ _
@[simp] def c51_28l : List EO := [m 43 1,
 o 44 (.call 71) [i 2000, i 2, i 1, i 0],
 o 45 (.call 71) [i 2100, i 2, i 1, i 2000],
 o 46 (.bsl 4) [t 44, t 45],
 o 47 (.app 78 4 32) [t 43, t 46],
 m 1 47]
def c51_28 : EC := .rg c51_28l false
@[simp] theorem c51_28e : Rg c51_28 c51_28l false := rgE _ _
@[simp] def c51_29l : List EO := [o 48 (.bsl 1) [i 3000, i 3100, i 3200, i 3300, i 3400, i 3500],
 o 49 .lenL [t 48],
 o 50 .mv [i 0]]
def c51_29 : EC := .rg c51_29l false
@[simp] theorem c51_29e : Rg c51_29 c51_29l false := rgE _ _
@[simp] def c51_30l : List EO := [o 51 (.bin .lss) [t 50, t 49]]
def c51_30 : EC := .rg c51_30l false
@[simp] theorem c51_30e : Rg c51_30 c51_30l false := rgE _ _
def c51_31 : EC := .cd (t 51) .skip (.ex 4)
@[simp] theorem c51_31e : Cd c51_31 (t 51) .skip (.ex 4) := cdE _ _ _
@[simp] def c51_32l : List EO := [o 52 (.iaS 1) [t 48, t 50],
 o 53 (.load 1 false) [t 52],
 m 7 53]
def c51_32 : EC := .rg c51_32l false
@[simp] theorem c51_32e : Rg c51_32 c51_32l false := rgE _ _
@[simp] def c51_33l : List EO := [m 54 1,
 m 55 7,
 o 56 (.call 71) [t 55, i 3, i 3, i 0],
 o 57 (.bsl 4) [t 56],
 o 58 (.app 78 4 32) [t 54, t 57],
 m 1 58]
def c51_33 : EC := .rg c51_33l false
@[simp] theorem c51_33e : Rg c51_33 c51_33l false := rgE _ _
def c51_34 : EC := .sq c51_32 c51_33
@[simp] theorem c51_34e : Sq c51_34 c51_32 c51_33 := sqE _ _
def c51_35 : EC := .bk 5 c51_34
@[simp] theorem c51_35e : Bk c51_35 5 c51_34 := bkE _ _
@[simp] def c51_36l : List EO := [o 59 (.bin .add) [t 50, i 1],
 m 50 59]
def c51_36 : EC := .rg c51_36l false
@[simp] theorem c51_36e : Rg c51_36 c51_36l false := rgE _ _
def c51_37 : EC := .sq c51_35 c51_36
@[simp] theorem c51_37e : Sq c51_37 c51_35 c51_36 := sqE _ _
def c51_38 : EC := .sq c51_31 c51_37
@[simp] theorem c51_38e : Sq c51_38 c51_31 c51_37 := sqE _ _
def c51_39 : EC := .sq c51_30 c51_38
@[simp] theorem c51_39e : Sq c51_39 c51_30 c51_38 := sqE _ _
def c51_40 : EC := .bk 4 (.lp c51_39)
@[simp] theorem c51_40e : Bk c51_40 4 (.lp c51_39) := bkE _ _
def c51_41 : EC := .sq c51_29 c51_40
@[simp] theorem c51_41e : Sq c51_41 c51_29 c51_40 := sqE _ _
@[simp] def c51_42l : List EO := [o 60 (.build [.t (.int .i64 0), .t (.int .i64 0)] [(0, 1), (1, 1)]) [i 4000, i 0],
 o 61 (.build [.t (.int .i64 0), .t (.int .i64 0)] [(0, 1), (1, 1)]) [i 4100, i 4000],
 o 62 (.build [.t (.int .i64 0), .t (.int .i64 0)] [(0, 1), (1, 1)]) [i 4500, i 0],
 o 63 (.build [.t (.int .i64 0), .t (.int .i64 0)] [(0, 1), (1, 1)]) [i 4600, i 0],
 o 64 (.build [.t (.int .i64 0), .t (.int .i64 0)] [(0, 1), (1, 1)]) [i 4700, i 0],
 o 65 (.bsl 2) [t 60, t 61, t 62, t 63, t 64],
 o 66 .lenL [t 65],
 o 67 .mv [i 0]]
def c51_42 : EC := .rg c51_42l false
@[simp] theorem c51_42e : Rg c51_42 c51_42l false := rgE _ _
@[simp] def c51_43l : List EO := [o 68 (.bin .lss) [t 67, t 66]]
def c51_43 : EC := .rg c51_43l false
@[simp] theorem c51_43e : Rg c51_43 c51_43l false := rgE _ _
def c51_44 : EC := .cd (t 68) .skip (.ex 6)
@[simp] theorem c51_44e : Cd c51_44 (t 68) .skip (.ex 6) := cdE _ _ _
@[simp] def c51_45l : List EO := [o 69 (.iaS 2) [t 65, t 67],
 o 70 (.load 2 true) [t 69],
 o 9 (.alloc [.t (.int .i64 0), .t (.int .i64 0)]) [],
 u (.store 2) [t 9, t 70]]
def c51_45 : EC := .rg c51_45l false
@[simp] theorem c51_45e : Rg c51_45 c51_45l false := rgE _ _
@[simp] def c51_46l : List EO := [m 71 1,
 o 72 (.iaA 2 1) [t 9, i 0],
 o 73 (.load 1 false) [t 72],
 o 74 (.iaA 2 1) [t 9, i 1],
 o 75 (.load 1 false) [t 74],
 o 76 (.call 71) [t 73, i 4, i 2, t 75],
 o 77 (.bsl 4) [t 76],
 o 78 (.app 78 4 32) [t 71, t 77],
 m 1 78]
def c51_46 : EC := .rg c51_46l false
@[simp] theorem c51_46e : Rg c51_46 c51_46l false := rgE _ _
def c51_47 : EC := .sq c51_45 c51_46
@[simp] theorem c51_47e : Sq c51_47 c51_45 c51_46 := sqE _ _
def c51_48 : EC := .bk 7 c51_47
@[simp] theorem c51_48e : Bk c51_48 7 c51_47 := bkE _ _
@[simp] def c51_49l : List EO := [o 79 (.bin .add) [t 67, i 1],
 m 67 79]
def c51_49 : EC := .rg c51_49l false
@[simp] theorem c51_49e : Rg c51_49 c51_49l false := rgE _ _
def c51_50 : EC := .sq c51_48 c51_49
@[simp] theorem c51_50e : Sq c51_50 c51_48 c51_49 := sqE _ _
def c51_51 : EC := .sq c51_44 c51_50
@[simp] theorem c51_51e : Sq c51_51 c51_44 c51_50 := sqE _ _
def c51_52 : EC := .sq c51_43 c51_51
@[simp] theorem c51_52e : Sq c51_52 c51_43 c51_51 := sqE _ _
def c51_53 : EC := .bk 6 (.lp c51_52)
@[simp] theorem c51_53e : Bk c51_53 6 (.lp c51_52) := bkE _ _
def c51_54 : EC := .sq c51_42 c51_53
@[simp] theorem c51_54e : Sq c51_54 c51_42 c51_53 := sqE _ _
@[simp] def c51_55l : List EO := [o 80 (.bsl 1) [i 5000, i 5100, i 5500, i 5600, i 5700],
 o 81 .lenL [t 80],
 o 82 .mv [i 0]]
def c51_55 : EC := .rg c51_55l false
@[simp] theorem c51_55e : Rg c51_55 c51_55l false := rgE _ _
@[simp] def c51_56l : List EO := [o 83 (.bin .lss) [t 82, t 81]]
def c51_56 : EC := .rg c51_56l false
@[simp] theorem c51_56e : Rg c51_56 c51_56l false := rgE _ _
def c51_57 : EC := .cd (t 83) .skip (.ex 8)
@[simp] theorem c51_57e : Cd c51_57 (t 83) .skip (.ex 8) := cdE _ _ _
@[simp] def c51_58l : List EO := [o 84 (.iaS 1) [t 80, t 82],
 o 85 (.load 1 false) [t 84],
 m 11 85]
def c51_58 : EC := .rg c51_58l false
@[simp] theorem c51_58e : Rg c51_58 c51_58l false := rgE _ _
@[simp] def c51_59l : List EO := [m 86 1,
 m 87 11,
 o 88 (.call 71) [t 87, i 5, i 2, i 0],
 o 89 (.bsl 4) [t 88],
 o 90 (.app 78 4 32) [t 86, t 89],
 m 1 90]
def c51_59 : EC := .rg c51_59l false
@[simp] theorem c51_59e : Rg c51_59 c51_59l false := rgE _ _
def c51_60 : EC := .sq c51_58 c51_59
@[simp] theorem c51_60e : Sq c51_60 c51_58 c51_59 := sqE _ _
def c51_61 : EC := .bk 9 c51_60
@[simp] theorem c51_61e : Bk c51_61 9 c51_60 := bkE _ _
@[simp] def c51_62l : List EO := [o 91 (.bin .add) [t 82, i 1],
 m 82 91]
def c51_62 : EC := .rg c51_62l false
@[simp] theorem c51_62e : Rg c51_62 c51_62l false := rgE _ _
def c51_63 : EC := .sq c51_61 c51_62
@[simp] theorem c51_63e : Sq c51_63 c51_61 c51_62 := sqE _ _
def c51_64 : EC := .sq c51_57 c51_63
@[simp] theorem c51_64e : Sq c51_64 c51_57 c51_63 := sqE _ _
def c51_65 : EC := .sq c51_56 c51_64
@[simp] theorem c51_65e : Sq c51_65 c51_56 c51_64 := sqE _ _
def c51_66 : EC := .bk 8 (.lp c51_65)
@[simp] theorem c51_66e : Bk c51_66 8 (.lp c51_65) := bkE _ _
def c51_67 : EC := .sq c51_55 c51_66
@[simp] theorem c51_67e : Sq c51_67 c51_55 c51_66 := sqE _ _
@[simp] def c51_68l : List EO := [m 92 1,
 m 0 92]
def c51_68 : EC := .rg c51_68l false
@[simp] theorem c51_68e : Rg c51_68 c51_68l false := rgE _ _
def c51_69 : EC := .sq c51_68 .rt
@[simp] theorem c51_69e : Sq c51_69 c51_68 .rt := sqE _ _
def c51_70 : EC := .sq c51_67 c51_69
@[simp] theorem c51_70e : Sq c51_70 c51_67 c51_69 := sqE _ _
def c51_71 : EC := .sq c51_54 c51_70
@[simp] theorem c51_71e : Sq c51_71 c51_54 c51_70 := sqE _ _
def c51_72 : EC := .sq c51_41 c51_71
@[simp] theorem c51_72e : Sq c51_72 c51_41 c51_71 := sqE _ _
def c51_73 : EC := .sq c51_28 c51_72
@[simp] theorem c51_73e : Sq c51_73 c51_28 c51_72 := sqE _ _
def c51_74 : EC := .sq c51_27 c51_73
@[simp] theorem c51_74e : Sq c51_74 c51_27 c51_73 := sqE _ _
def c51_75 : EC := .sq c51_14 c51_74
@[simp] theorem c51_75e : Sq c51_75 c51_14 c51_74 := sqE _ _
def c51_76 : EC := .sq c51_1 c51_75
@[simp] theorem c51_76e : Sq c51_76 c51_1 c51_75 := sqE _ _
def c51_77 : EC := .sq c51_0 c51_76
@[simp] theorem c51_77e : Sq c51_77 c51_0 c51_76 := sqE _ _
def c_group_sampleChart_51 : EC := c51_77
theorem k_51 : ecF Try.prog 51 = some (93, c_group_sampleChart_51, [.tm 0]) := by kernel_rfl

/-- tallystone/group.sampleChart, with slices that grow in boxes -/
@[simp] def b51_0l : List EO := [o 0 .mv [c (.snil)]]
def b51_0 : EC := .rg b51_0l false
@[simp] theorem b51_0e : Rg b51_0 b51_0l false := rgE _ _
@[simp] def b51_1l : List EO := [o 1 .mv [c (.snil)]]
def b51_1 : EC := .rg b51_1l false
@[simp] theorem b51_1e : Rg b51_1 b51_1l false := rgE _ _
@[simp] def b51_2l : List EO := [o 12 (.build [.t (.int .i64 0), .t (.int .i64 0)] [(0, 1), (1, 1)]) [i 1000, i 0],
 o 13 (.build [.t (.int .i64 0), .t (.int .i64 0)] [(0, 1), (1, 1)]) [i 1010, i 1000],
 o 14 (.build [.t (.int .i64 0), .t (.int .i64 0)] [(0, 1), (1, 1)]) [i 1100, i 1000],
 o 15 (.build [.t (.int .i64 0), .t (.int .i64 0)] [(0, 1), (1, 1)]) [i 1200, i 1000],
 o 16 (.bsl 2) [t 12, t 13, t 14, t 15],
 o 17 .lenL [t 16],
 o 18 .mv [i 0]]
def b51_2 : EC := .rg b51_2l false
@[simp] theorem b51_2e : Rg b51_2 b51_2l false := rgE _ _
@[simp] def b51_3l : List EO := [o 19 (.bin .lss) [t 18, t 17]]
def b51_3 : EC := .rg b51_3l false
@[simp] theorem b51_3e : Rg b51_3 b51_3l false := rgE _ _
def b51_4 : EC := .cd (t 19) .skip (.ex 0)
@[simp] theorem b51_4e : Cd b51_4 (t 19) .skip (.ex 0) := cdE _ _ _
@[simp] def b51_5l : List EO := [o 20 (.iaS 2) [t 16, t 18],
 o 21 (.load 2 true) [t 20],
 o 3 (.alloc [.t (.int .i64 0), .t (.int .i64 0)]) [],
 u (.store 2) [t 3, t 21]]
def b51_5 : EC := .rg b51_5l false
@[simp] theorem b51_5e : Rg b51_5 b51_5l false := rgE _ _
@[simp] def b51_6l : List EO := [m 22 1,
 o 23 (.iaA 2 1) [t 3, i 0],
 o 24 (.load 1 false) [t 23],
 o 25 (.iaA 2 1) [t 3, i 1],
 o 26 (.load 1 false) [t 25],
 o 27 (.call 71) [t 24, i 1, i 1, t 26],
 o 28 (.bsl 4) [t 27],
 o 29 (.appB 78 4 32) [t 22, t 28],
 m 1 29]
def b51_6 : EC := .rg b51_6l false
@[simp] theorem b51_6e : Rg b51_6 b51_6l false := rgE _ _
def b51_7 : EC := .sq b51_5 b51_6
@[simp] theorem b51_7e : Sq b51_7 b51_5 b51_6 := sqE _ _
def b51_8 : EC := .bk 1 b51_7
@[simp] theorem b51_8e : Bk b51_8 1 b51_7 := bkE _ _
@[simp] def b51_9l : List EO := [o 30 (.bin .add) [t 18, i 1],
 m 18 30]
def b51_9 : EC := .rg b51_9l false
@[simp] theorem b51_9e : Rg b51_9 b51_9l false := rgE _ _
def b51_10 : EC := .sq b51_8 b51_9
@[simp] theorem b51_10e : Sq b51_10 b51_8 b51_9 := sqE _ _
def b51_11 : EC := .sq b51_4 b51_10
@[simp] theorem b51_11e : Sq b51_11 b51_4 b51_10 := sqE _ _
def b51_12 : EC := .sq b51_3 b51_11
@[simp] theorem b51_12e : Sq b51_12 b51_3 b51_11 := sqE _ _
def b51_13 : EC := .bk 0 (.lp b51_12)
@[simp] theorem b51_13e : Bk b51_13 0 (.lp b51_12) := bkE _ _
def b51_14 : EC := .sq b51_2 b51_13
@[simp] theorem b51_14e : Sq b51_14 b51_2 b51_13 := sqE _ _
@[simp] def b51_15l : List EO := [o 31 (.bsl 1) [i 1300, i 1500, i 1600, i 1700],
 o 32 .lenL [t 31],
 o 33 .mv [i 0]]
def b51_15 : EC := .rg b51_15l false
@[simp] theorem b51_15e : Rg b51_15 b51_15l false := rgE _ _
@[simp] def b51_16l : List EO := [o 34 (.bin .lss) [t 33, t 32]]
def b51_16 : EC := .rg b51_16l false
@[simp] theorem b51_16e : Rg b51_16 b51_16l false := rgE _ _
def b51_17 : EC := .cd (t 34) .skip (.ex 2)
@[simp] theorem b51_17e : Cd b51_17 (t 34) .skip (.ex 2) := cdE _ _ _
@[simp] def b51_18l : List EO := [o 35 (.iaS 1) [t 31, t 33],
 o 36 (.load 1 false) [t 35],
 m 5 36]
def b51_18 : EC := .rg b51_18l false
@[simp] theorem b51_18e : Rg b51_18 b51_18l false := rgE _ _
@[simp] def b51_19l : List EO := [m 37 1,
 m 38 5,
 o 39 (.call 71) [t 38, i 1, i 3, i 0],
 o 40 (.bsl 4) [t 39],
 o 41 (.appB 78 4 32) [t 37, t 40],
 m 1 41]
def b51_19 : EC := .rg b51_19l false
@[simp] theorem b51_19e : Rg b51_19 b51_19l false := rgE _ _
def b51_20 : EC := .sq b51_18 b51_19
@[simp] theorem b51_20e : Sq b51_20 b51_18 b51_19 := sqE _ _
def b51_21 : EC := .bk 3 b51_20
@[simp] theorem b51_21e : Bk b51_21 3 b51_20 := bkE _ _
@[simp] def b51_22l : List EO := [o 42 (.bin .add) [t 33, i 1],
 m 33 42]
def b51_22 : EC := .rg b51_22l false
@[simp] theorem b51_22e : Rg b51_22 b51_22l false := rgE _ _
def b51_23 : EC := .sq b51_21 b51_22
@[simp] theorem b51_23e : Sq b51_23 b51_21 b51_22 := sqE _ _
def b51_24 : EC := .sq b51_17 b51_23
@[simp] theorem b51_24e : Sq b51_24 b51_17 b51_23 := sqE _ _
def b51_25 : EC := .sq b51_16 b51_24
@[simp] theorem b51_25e : Sq b51_25 b51_16 b51_24 := sqE _ _
def b51_26 : EC := .bk 2 (.lp b51_25)
@[simp] theorem b51_26e : Bk b51_26 2 (.lp b51_25) := bkE _ _
def b51_27 : EC := .sq b51_15 b51_26
@[simp] theorem b51_27e : Sq b51_27 b51_15 b51_26 := sqE _ _
@[simp] def b51_28l : List EO := [m 43 1,
 o 44 (.call 71) [i 2000, i 2, i 1, i 0],
 o 45 (.call 71) [i 2100, i 2, i 1, i 2000],
 o 46 (.bsl 4) [t 44, t 45],
 o 47 (.appB 78 4 32) [t 43, t 46],
 m 1 47]
def b51_28 : EC := .rg b51_28l false
@[simp] theorem b51_28e : Rg b51_28 b51_28l false := rgE _ _
@[simp] def b51_29l : List EO := [o 48 (.bsl 1) [i 3000, i 3100, i 3200, i 3300, i 3400, i 3500],
 o 49 .lenL [t 48],
 o 50 .mv [i 0]]
def b51_29 : EC := .rg b51_29l false
@[simp] theorem b51_29e : Rg b51_29 b51_29l false := rgE _ _
@[simp] def b51_30l : List EO := [o 51 (.bin .lss) [t 50, t 49]]
def b51_30 : EC := .rg b51_30l false
@[simp] theorem b51_30e : Rg b51_30 b51_30l false := rgE _ _
def b51_31 : EC := .cd (t 51) .skip (.ex 4)
@[simp] theorem b51_31e : Cd b51_31 (t 51) .skip (.ex 4) := cdE _ _ _
@[simp] def b51_32l : List EO := [o 52 (.iaS 1) [t 48, t 50],
 o 53 (.load 1 false) [t 52],
 m 7 53]
def b51_32 : EC := .rg b51_32l false
@[simp] theorem b51_32e : Rg b51_32 b51_32l false := rgE _ _
@[simp] def b51_33l : List EO := [m 54 1,
 m 55 7,
 o 56 (.call 71) [t 55, i 3, i 3, i 0],
 o 57 (.bsl 4) [t 56],
 o 58 (.appB 78 4 32) [t 54, t 57],
 m 1 58]
def b51_33 : EC := .rg b51_33l false
@[simp] theorem b51_33e : Rg b51_33 b51_33l false := rgE _ _
def b51_34 : EC := .sq b51_32 b51_33
@[simp] theorem b51_34e : Sq b51_34 b51_32 b51_33 := sqE _ _
def b51_35 : EC := .bk 5 b51_34
@[simp] theorem b51_35e : Bk b51_35 5 b51_34 := bkE _ _
@[simp] def b51_36l : List EO := [o 59 (.bin .add) [t 50, i 1],
 m 50 59]
def b51_36 : EC := .rg b51_36l false
@[simp] theorem b51_36e : Rg b51_36 b51_36l false := rgE _ _
def b51_37 : EC := .sq b51_35 b51_36
@[simp] theorem b51_37e : Sq b51_37 b51_35 b51_36 := sqE _ _
def b51_38 : EC := .sq b51_31 b51_37
@[simp] theorem b51_38e : Sq b51_38 b51_31 b51_37 := sqE _ _
def b51_39 : EC := .sq b51_30 b51_38
@[simp] theorem b51_39e : Sq b51_39 b51_30 b51_38 := sqE _ _
def b51_40 : EC := .bk 4 (.lp b51_39)
@[simp] theorem b51_40e : Bk b51_40 4 (.lp b51_39) := bkE _ _
def b51_41 : EC := .sq b51_29 b51_40
@[simp] theorem b51_41e : Sq b51_41 b51_29 b51_40 := sqE _ _
@[simp] def b51_42l : List EO := [o 60 (.build [.t (.int .i64 0), .t (.int .i64 0)] [(0, 1), (1, 1)]) [i 4000, i 0],
 o 61 (.build [.t (.int .i64 0), .t (.int .i64 0)] [(0, 1), (1, 1)]) [i 4100, i 4000],
 o 62 (.build [.t (.int .i64 0), .t (.int .i64 0)] [(0, 1), (1, 1)]) [i 4500, i 0],
 o 63 (.build [.t (.int .i64 0), .t (.int .i64 0)] [(0, 1), (1, 1)]) [i 4600, i 0],
 o 64 (.build [.t (.int .i64 0), .t (.int .i64 0)] [(0, 1), (1, 1)]) [i 4700, i 0],
 o 65 (.bsl 2) [t 60, t 61, t 62, t 63, t 64],
 o 66 .lenL [t 65],
 o 67 .mv [i 0]]
def b51_42 : EC := .rg b51_42l false
@[simp] theorem b51_42e : Rg b51_42 b51_42l false := rgE _ _
@[simp] def b51_43l : List EO := [o 68 (.bin .lss) [t 67, t 66]]
def b51_43 : EC := .rg b51_43l false
@[simp] theorem b51_43e : Rg b51_43 b51_43l false := rgE _ _
def b51_44 : EC := .cd (t 68) .skip (.ex 6)
@[simp] theorem b51_44e : Cd b51_44 (t 68) .skip (.ex 6) := cdE _ _ _
@[simp] def b51_45l : List EO := [o 69 (.iaS 2) [t 65, t 67],
 o 70 (.load 2 true) [t 69],
 o 9 (.alloc [.t (.int .i64 0), .t (.int .i64 0)]) [],
 u (.store 2) [t 9, t 70]]
def b51_45 : EC := .rg b51_45l false
@[simp] theorem b51_45e : Rg b51_45 b51_45l false := rgE _ _
@[simp] def b51_46l : List EO := [m 71 1,
 o 72 (.iaA 2 1) [t 9, i 0],
 o 73 (.load 1 false) [t 72],
 o 74 (.iaA 2 1) [t 9, i 1],
 o 75 (.load 1 false) [t 74],
 o 76 (.call 71) [t 73, i 4, i 2, t 75],
 o 77 (.bsl 4) [t 76],
 o 78 (.appB 78 4 32) [t 71, t 77],
 m 1 78]
def b51_46 : EC := .rg b51_46l false
@[simp] theorem b51_46e : Rg b51_46 b51_46l false := rgE _ _
def b51_47 : EC := .sq b51_45 b51_46
@[simp] theorem b51_47e : Sq b51_47 b51_45 b51_46 := sqE _ _
def b51_48 : EC := .bk 7 b51_47
@[simp] theorem b51_48e : Bk b51_48 7 b51_47 := bkE _ _
@[simp] def b51_49l : List EO := [o 79 (.bin .add) [t 67, i 1],
 m 67 79]
def b51_49 : EC := .rg b51_49l false
@[simp] theorem b51_49e : Rg b51_49 b51_49l false := rgE _ _
def b51_50 : EC := .sq b51_48 b51_49
@[simp] theorem b51_50e : Sq b51_50 b51_48 b51_49 := sqE _ _
def b51_51 : EC := .sq b51_44 b51_50
@[simp] theorem b51_51e : Sq b51_51 b51_44 b51_50 := sqE _ _
def b51_52 : EC := .sq b51_43 b51_51
@[simp] theorem b51_52e : Sq b51_52 b51_43 b51_51 := sqE _ _
def b51_53 : EC := .bk 6 (.lp b51_52)
@[simp] theorem b51_53e : Bk b51_53 6 (.lp b51_52) := bkE _ _
def b51_54 : EC := .sq b51_42 b51_53
@[simp] theorem b51_54e : Sq b51_54 b51_42 b51_53 := sqE _ _
@[simp] def b51_55l : List EO := [o 80 (.bsl 1) [i 5000, i 5100, i 5500, i 5600, i 5700],
 o 81 .lenL [t 80],
 o 82 .mv [i 0]]
def b51_55 : EC := .rg b51_55l false
@[simp] theorem b51_55e : Rg b51_55 b51_55l false := rgE _ _
@[simp] def b51_56l : List EO := [o 83 (.bin .lss) [t 82, t 81]]
def b51_56 : EC := .rg b51_56l false
@[simp] theorem b51_56e : Rg b51_56 b51_56l false := rgE _ _
def b51_57 : EC := .cd (t 83) .skip (.ex 8)
@[simp] theorem b51_57e : Cd b51_57 (t 83) .skip (.ex 8) := cdE _ _ _
@[simp] def b51_58l : List EO := [o 84 (.iaS 1) [t 80, t 82],
 o 85 (.load 1 false) [t 84],
 m 11 85]
def b51_58 : EC := .rg b51_58l false
@[simp] theorem b51_58e : Rg b51_58 b51_58l false := rgE _ _
@[simp] def b51_59l : List EO := [m 86 1,
 m 87 11,
 o 88 (.call 71) [t 87, i 5, i 2, i 0],
 o 89 (.bsl 4) [t 88],
 o 90 (.appB 78 4 32) [t 86, t 89],
 m 1 90]
def b51_59 : EC := .rg b51_59l false
@[simp] theorem b51_59e : Rg b51_59 b51_59l false := rgE _ _
def b51_60 : EC := .sq b51_58 b51_59
@[simp] theorem b51_60e : Sq b51_60 b51_58 b51_59 := sqE _ _
def b51_61 : EC := .bk 9 b51_60
@[simp] theorem b51_61e : Bk b51_61 9 b51_60 := bkE _ _
@[simp] def b51_62l : List EO := [o 91 (.bin .add) [t 82, i 1],
 m 82 91]
def b51_62 : EC := .rg b51_62l false
@[simp] theorem b51_62e : Rg b51_62 b51_62l false := rgE _ _
def b51_63 : EC := .sq b51_61 b51_62
@[simp] theorem b51_63e : Sq b51_63 b51_61 b51_62 := sqE _ _
def b51_64 : EC := .sq b51_57 b51_63
@[simp] theorem b51_64e : Sq b51_64 b51_57 b51_63 := sqE _ _
def b51_65 : EC := .sq b51_56 b51_64
@[simp] theorem b51_65e : Sq b51_65 b51_56 b51_64 := sqE _ _
def b51_66 : EC := .bk 8 (.lp b51_65)
@[simp] theorem b51_66e : Bk b51_66 8 (.lp b51_65) := bkE _ _
def b51_67 : EC := .sq b51_55 b51_66
@[simp] theorem b51_67e : Sq b51_67 b51_55 b51_66 := sqE _ _
@[simp] def b51_68l : List EO := [m 92 1,
 m 0 92]
def b51_68 : EC := .rg b51_68l false
@[simp] theorem b51_68e : Rg b51_68 b51_68l false := rgE _ _
def b51_69 : EC := .sq b51_68 .rt
@[simp] theorem b51_69e : Sq b51_69 b51_68 .rt := sqE _ _
def b51_70 : EC := .sq b51_67 b51_69
@[simp] theorem b51_70e : Sq b51_70 b51_67 b51_69 := sqE _ _
def b51_71 : EC := .sq b51_54 b51_70
@[simp] theorem b51_71e : Sq b51_71 b51_54 b51_70 := sqE _ _
def b51_72 : EC := .sq b51_41 b51_71
@[simp] theorem b51_72e : Sq b51_72 b51_41 b51_71 := sqE _ _
def b51_73 : EC := .sq b51_28 b51_72
@[simp] theorem b51_73e : Sq b51_73 b51_28 b51_72 := sqE _ _
def b51_74 : EC := .sq b51_27 b51_73
@[simp] theorem b51_74e : Sq b51_74 b51_27 b51_73 := sqE _ _
def b51_75 : EC := .sq b51_14 b51_74
@[simp] theorem b51_75e : Sq b51_75 b51_14 b51_74 := sqE _ _
def b51_76 : EC := .sq b51_1 b51_75
@[simp] theorem b51_76e : Sq b51_76 b51_1 b51_75 := sqE _ _
def b51_77 : EC := .sq b51_0 b51_76
@[simp] theorem b51_77e : Sq b51_77 b51_0 b51_76 := sqE _ _
def b_group_sampleChart_51 : EC := b51_77
theorem kb_51 : ecB Try.prog 51 = some (93, b_group_sampleChart_51, [.tm 0]) := by kernel_rfl

/-- tallystone/group.sampleEntity -/
@[simp] def c52_0l : List EO := [o 6 (.alloc [.t (.str []), .t (.str []), .snil, .snil, .t (.bool false)]) []]
def c52_0 : EC := .rg c52_0l false
@[simp] theorem c52_0e : Rg c52_0 c52_0l false := rgE _ _
@[simp] def c52_1l : List EO := [m 13 0,
 m 14 1,
 m 15 2,
 o 16 (.build [.t (.str []), .t (.str []), .snil, .snil, .t (.bool false)] [(0, 1), (1, 1), (4, 1)]) [t 13, t 14, t 15],
 o 7 (.alloc [.t (.str []), .t (.str []), .snil, .snil, .t (.bool false)]) [],
 u (.store 5) [t 7, t 16]]
def c52_1 : EC := .rg c52_1l false
@[simp] theorem c52_1e : Rg c52_1 c52_1l false := rgE _ _
@[simp] def c52_2l : List EO := [o 17 (.bsl 1) [i 1, i 1, i 1, i 1, i 1, i 2, i 2, i 3, i 3, i 4, i 4, i 4, i 5, i 5],
 m 8 17]
def c52_2 : EC := .rg c52_2l false
@[simp] theorem c52_2e : Rg c52_2 c52_2l false := rgE _ _
@[simp] def c52_3l : List EO := [o 18 (.bsl 1) [i 1010, i 1100, i 1200, i 1300, i 1500, i 2000, i 2100, i 3000, i 3300, i 4000, i 4100, i 4700, i 5000, i 5100],
 m 9 18]
def c52_3 : EC := .rg c52_3l false
@[simp] theorem c52_3e : Rg c52_3 c52_3l false := rgE _ _
@[simp] def c52_4l : List EO := [m 19 8,
 o 20 .lenL [t 19],
 o 21 .mv [i 0]]
def c52_4 : EC := .rg c52_4l false
@[simp] theorem c52_4e : Rg c52_4 c52_4l false := rgE _ _
@[simp] def c52_5l : List EO := [o 22 (.bin .lss) [t 21, t 20]]
def c52_5 : EC := .rg c52_5l false
@[simp] theorem c52_5e : Rg c52_5 c52_5l false := rgE _ _
def c52_6 : EC := .cd (t 22) .skip (.ex 0)
@[simp] theorem c52_6e : Cd c52_6 (t 22) .skip (.ex 0) := cdE _ _ _
@[simp] def c52_7l : List EO := [m 23 21,
 o 24 (.iaS 1) [t 19, t 21],
 o 25 (.load 1 false) [t 24],
 m 10 23,
 m 11 25]
def c52_7 : EC := .rg c52_7l false
@[simp] theorem c52_7e : Rg c52_7 c52_7l false := rgE _ _
@[simp] def c52_8l : List EO := [m 26 10,
 o 27 (.bin .add) [t 26, i 1],
 o 28 (.bin .mul) [i 10, t 27],
 m 12 28]
def c52_8 : EC := .rg c52_8l false
@[simp] theorem c52_8e : Rg c52_8 c52_8l false := rgE _ _
@[simp] def c52_9l : List EO := [o 29 (.faddr 2) [t 7],
 o 30 (.load 1 false) [t 29],
 m 31 12,
 m 32 11,
 o 33 (.build [.t (.int .i64 0), .t (.int .i64 0), .t (.int .i64 0), .t (.int .i64 0)] [(0, 1), (1, 1)]) [t 31, t 32],
 o 34 (.bsl 4) [t 33],
 o 35 (.app 78 4 32) [t 30, t 34],
 o 36 (.faddr 2) [t 7],
 u (.store 1) [t 36, t 35]]
def c52_9 : EC := .rg c52_9l false
@[simp] theorem c52_9e : Rg c52_9 c52_9l false := rgE _ _
@[simp] def c52_10l : List EO := [o 37 (.faddr 3) [t 7],
 o 38 (.load 1 false) [t 37],
 m 39 12,
 m 40 9,
 m 41 10,
 o 42 (.iaS 1) [t 40, t 41],
 o 43 (.load 1 false) [t 42],
 o 44 (.build [.t (.int .i64 0), .t (.int .i64 0), .t (.int .i64 0)] [(0, 1), (1, 1), (2, 1)]) [t 39, t 43, i (-25567)],
 o 45 (.bsl 3) [t 44],
 o 46 (.app 124 3 24) [t 38, t 45],
 o 47 (.faddr 3) [t 7],
 u (.store 1) [t 47, t 46]]
def c52_10 : EC := .rg c52_10l true
@[simp] theorem c52_10e : Rg c52_10 c52_10l true := rgE _ _
def c52_11 : EC := .sq c52_9 c52_10
@[simp] theorem c52_11e : Sq c52_11 c52_9 c52_10 := sqE _ _
def c52_12 : EC := .sq c52_8 c52_11
@[simp] theorem c52_12e : Sq c52_12 c52_8 c52_11 := sqE _ _
def c52_13 : EC := .sq c52_7 c52_12
@[simp] theorem c52_13e : Sq c52_13 c52_7 c52_12 := sqE _ _
def c52_14 : EC := .bk 1 c52_13
@[simp] theorem c52_14e : Bk c52_14 1 c52_13 := bkE _ _
@[simp] def c52_15l : List EO := [o 48 (.bin .add) [t 21, i 1],
 m 21 48]
def c52_15 : EC := .rg c52_15l false
@[simp] theorem c52_15e : Rg c52_15 c52_15l false := rgE _ _
def c52_16 : EC := .sq c52_14 c52_15
@[simp] theorem c52_16e : Sq c52_16 c52_14 c52_15 := sqE _ _
def c52_17 : EC := .sq c52_6 c52_16
@[simp] theorem c52_17e : Sq c52_17 c52_6 c52_16 := sqE _ _
def c52_18 : EC := .sq c52_5 c52_17
@[simp] theorem c52_18e : Sq c52_18 c52_5 c52_17 := sqE _ _
def c52_19 : EC := .bk 0 (.lp c52_18)
@[simp] theorem c52_19e : Bk c52_19 0 (.lp c52_18) := bkE _ _
def c52_20 : EC := .sq c52_4 c52_19
@[simp] theorem c52_20e : Sq c52_20 c52_4 c52_19 := sqE _ _
@[simp] def c52_21l : List EO := [o 49 (.load 5 true) [t 7],
 u (.store 5) [t 6, t 49]]
def c52_21 : EC := .rg c52_21l false
@[simp] theorem c52_21e : Rg c52_21 c52_21l false := rgE _ _
def c52_22 : EC := .sq c52_21 .rt
@[simp] theorem c52_22e : Sq c52_22 c52_21 .rt := sqE _ _
def c52_23 : EC := .sq c52_20 c52_22
@[simp] theorem c52_23e : Sq c52_23 c52_20 c52_22 := sqE _ _
def c52_24 : EC := .sq c52_3 c52_23
@[simp] theorem c52_24e : Sq c52_24 c52_3 c52_23 := sqE _ _
def c52_25 : EC := .sq c52_2 c52_24
@[simp] theorem c52_25e : Sq c52_25 c52_2 c52_24 := sqE _ _
def c52_26 : EC := .sq c52_1 c52_25
@[simp] theorem c52_26e : Sq c52_26 c52_1 c52_25 := sqE _ _
def c52_27 : EC := .sq c52_0 c52_26
@[simp] theorem c52_27e : Sq c52_27 c52_0 c52_26 := sqE _ _
def c_group_sampleEntity_52 : EC := c52_27
theorem k_52 : ecF Try.prog 52 = some (50, c_group_sampleEntity_52, [.ce 6 5 true]) := by kernel_rfl
end Go.Proofs.Ythfnaaeddlnckaa
