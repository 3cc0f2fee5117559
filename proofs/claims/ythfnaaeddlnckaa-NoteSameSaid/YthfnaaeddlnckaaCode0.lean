/- The code of the functions of this seat, as the engine reads it; printed by program out of the translation, checked by the kernel. -/
import Derived.Test.YthfnaaeddlnckaaEd
import Derived.Test.YthfnaaeddlnckaaProg
set_option linter.unusedSimpArgs false
set_option linter.unusedVariables false
namespace Go.Proofs.Ythfnaaeddlnckaa
open Go.Proofs E E.Z
variable {P : Program} {nb nt : Nat} {Q : Ex → Fr → St → Prop} {a : Fr} {S : St}
/-- gosem.cut.init -/
@[simp] def c2_0l : List EO := [o 0 (.call 1) []]
def c2_0 : EC := .rg c2_0l false
@[simp] theorem c2_0e : Rg c2_0 c2_0l false := rgE _ _
def c_gosem_cut_init_2 : EC := c2_0
theorem k_2 : ecF Try.prog 2 = some (1, c_gosem_cut_init_2, []) := by kernel_rfl

/-- tallystone/tallystonelaw58.ShellNames -/
@[simp] def c3_0l : List EO := [o 2 .mv [b false]]
def c3_0 : EC := .rg c3_0l false
@[simp] theorem c3_0e : Rg c3_0 c3_0l false := rgE _ _
@[simp] def c3_1l : List EO := [o 3 (.call 10) [i 0],
 o 4 (.bin .eql) [t 3, c (.t (.str [111, 107]))],
 m 5 4,
 y 6 5 .mv [t 0],
 y 7 5 (.call 10) [t 6],
 y 8 5 .mv [t 0],
 y 9 5 (.call 11) [t 8],
 y 10 5 (.bin .eql) [t 7, t 9],
 o 11 .pick [t 5, t 10, b false],
 m 2 11]
def c3_1 : EC := .rg c3_1l false
@[simp] theorem c3_1e : Rg c3_1 c3_1l false := rgE _ _
def c3_2 : EC := .sq c3_1 .rt
@[simp] theorem c3_2e : Sq c3_2 c3_1 .rt := sqE _ _
def c3_3 : EC := .sq c3_0 c3_2
@[simp] theorem c3_3e : Sq c3_3 c3_0 c3_2 := sqE _ _
def c_tallystonelaw58_ShellNames_3 : EC := c3_3
theorem k_3 : ecF Try.prog 3 = some (12, c_tallystonelaw58_ShellNames_3, [.tm 2]) := by kernel_rfl

/-- tallystone/tallystonelaw52.NoteMake -/
@[simp] def c4_0l : List EO := [o 3 .box [t 0],
 o 4 .box [t 1],
 o 6 .mv [b false]]
def c4_0 : EC := .rg c4_0l false
@[simp] theorem c4_0e : Rg c4_0 c4_0l false := rgE _ _
@[simp] def c4_1l : List EO := [o 11 (.call 12) [],
 o 12 (.un .not) [t 11],
 m 13 12,
 n 14 13 (.load 21 true) [t 3],
 n 15 13 (.faddr 0) [t 4],
 n 16 13 (.load 4 true) [t 15],
 n 17 13 (.faddr 4) [t 4],
 n 18 13 (.load 4 true) [t 17],
 n 19 13 (.call 13) [t 14, t 16, t 18],
 n 20 13 (.un .not) [t 19],
 o 21 .pick [t 13, b true, t 20]]
def c4_1 : EC := .rg c4_1l false
@[simp] theorem c4_1e : Rg c4_1 c4_1l false := rgE _ _
@[simp] def c4_2l : List EO := [o 22 (.call 12) [],
 m 6 22]
def c4_2 : EC := .rg c4_2l false
@[simp] theorem c4_2e : Rg c4_2 c4_2l false := rgE _ _
def c4_3 : EC := .sq c4_2 .rt
@[simp] theorem c4_3e : Sq c4_3 c4_2 .rt := sqE _ _
def c4_4 : EC := .cd (t 21) c4_3 .skip
@[simp] theorem c4_4e : Cd c4_4 (t 21) c4_3 .skip := cdE _ _ _
def c4_5 : EC := .sq c4_1 c4_4
@[simp] theorem c4_5e : Sq c4_5 c4_1 c4_4 := sqE _ _
@[simp] def c4_6l : List EO := [o 24 (.load 21 true) [t 3],
 o 25 (.faddr 0) [t 4],
 o 26 (.load 4 true) [t 25],
 o 27 (.faddr 4) [t 4],
 o 28 (.load 4 true) [t 27],
 m 29 2,
 o 30 (.call 14) [t 24, t 26, t 28, t 29],
 m 23 30,
 o 31 (.ext 0) [t 23],
 o 32 (.ext 1) [t 23],
 o 7 (.alloc [.t (.int .i64 0), .t (.int .i64 0), .t (.int .i64 0), .t (.int .i64 0), .t (.int .i64 0), .t (.int .i64 0), .t (.int .i64 0), .t (.int .i64 0), .t (.int .i64 0), .t (.int .i64 0), .t (.int .i64 0), .t (.int .i64 0), .t (.int .i64 0), .t (.int .i64 0), .t (.int .i64 0), .t (.int .i64 0)]) [],
 u (.store 16) [t 7, t 31],
 m 8 32]
def c4_6 : EC := .rg c4_6l false
@[simp] theorem c4_6e : Rg c4_6 c4_6l false := rgE _ _
@[simp] def c4_7l : List EO := [o 34 (.load 21 true) [t 3],
 o 35 (.faddr 0) [t 4],
 o 36 (.load 4 true) [t 35],
 o 37 (.faddr 4) [t 4],
 o 38 (.load 4 true) [t 37],
 m 39 2,
 o 40 (.call 15) [t 34, t 36, t 38, t 39],
 m 33 40,
 o 41 (.ext 0) [t 33],
 o 42 (.ext 1) [t 33],
 o 9 (.alloc [.t (.int .i64 0), .t (.int .i64 0), .t (.int .i64 0), .t (.int .i64 0), .t (.int .i64 0), .t (.int .i64 0), .t (.int .i64 0), .t (.int .i64 0), .t (.int .i64 0), .t (.int .i64 0), .t (.int .i64 0), .t (.int .i64 0), .t (.int .i64 0), .t (.int .i64 0), .t (.int .i64 0), .t (.int .i64 0)]) [],
 u (.store 16) [t 9, t 41],
 m 10 42]
def c4_7 : EC := .rg c4_7l false
@[simp] theorem c4_7e : Rg c4_7 c4_7l false := rgE _ _
@[simp] def c4_8l : List EO := [m 43 8,
 m 44 10,
 o 45 (.bin .eql) [t 43, t 44],
 m 46 45,
 y 47 46 (.load 16 true) [t 7],
 y 48 46 (.load 16 true) [t 9],
 y 49 46 (.eqv false true [1, 1, 1, 1, 1, 1, 1, 1, 1, 1, 1, 1, 1, 1, 1, 1]) [t 47, t 48],
 o 50 .pick [t 46, t 49, b false],
 m 51 50,
 y 52 51 (.load 16 true) [t 7],
 y 53 51 (.call 16) [t 52],
 y 54 51 (.load 16 true) [t 9],
 y 55 51 (.call 17) [t 54],
 y 56 51 (.bin .eql) [t 53, t 55],
 o 57 .pick [t 51, t 56, b false],
 m 6 57]
def c4_8 : EC := .rg c4_8l true
@[simp] theorem c4_8e : Rg c4_8 c4_8l true := rgE _ _
def c4_9 : EC := .sq c4_8 .rt
@[simp] theorem c4_9e : Sq c4_9 c4_8 .rt := sqE _ _
def c4_10 : EC := .sq c4_7 c4_9
@[simp] theorem c4_10e : Sq c4_10 c4_7 c4_9 := sqE _ _
def c4_11 : EC := .sq c4_6 c4_10
@[simp] theorem c4_11e : Sq c4_11 c4_6 c4_10 := sqE _ _
def c4_12 : EC := .sq c4_5 c4_11
@[simp] theorem c4_12e : Sq c4_12 c4_5 c4_11 := sqE _ _
def c4_13 : EC := .sq c4_0 c4_12
@[simp] theorem c4_13e : Sq c4_13 c4_0 c4_12 := sqE _ _
def c_tallystonelaw52_NoteMake_4 : EC := c4_13
theorem k_4 : ecF Try.prog 4 = some (58, c_tallystonelaw52_NoteMake_4, [.tm 6]) := by kernel_rfl

/-- tallystone/tallystonelaw52.NoteExplains -/
@[simp] def c5_0l : List EO := [o 3 .box [t 0],
 o 4 .box [t 1],
 o 6 .mv [b false]]
def c5_0 : EC := .rg c5_0l false
@[simp] theorem c5_0e : Rg c5_0 c5_0l false := rgE _ _
@[simp] def c5_1l : List EO := [o 11 (.call 12) [],
 o 12 (.un .not) [t 11],
 m 13 12,
 n 14 13 (.load 21 true) [t 3],
 n 15 13 (.faddr 0) [t 4],
 n 16 13 (.load 4 true) [t 15],
 n 17 13 (.faddr 4) [t 4],
 n 18 13 (.load 4 true) [t 17],
 n 19 13 (.call 13) [t 14, t 16, t 18],
 n 20 13 (.un .not) [t 19],
 o 21 .pick [t 13, b true, t 20]]
def c5_1 : EC := .rg c5_1l false
@[simp] theorem c5_1e : Rg c5_1 c5_1l false := rgE _ _
@[simp] def c5_2l : List EO := [o 22 (.call 12) [],
 m 6 22]
def c5_2 : EC := .rg c5_2l false
@[simp] theorem c5_2e : Rg c5_2 c5_2l false := rgE _ _
def c5_3 : EC := .sq c5_2 .rt
@[simp] theorem c5_3e : Sq c5_3 c5_2 .rt := sqE _ _
def c5_4 : EC := .cd (t 21) c5_3 .skip
@[simp] theorem c5_4e : Cd c5_4 (t 21) c5_3 .skip := cdE _ _ _
def c5_5 : EC := .sq c5_1 c5_4
@[simp] theorem c5_5e : Sq c5_5 c5_1 c5_4 := sqE _ _
@[simp] def c5_6l : List EO := [o 23 (.bsl 5) [],
 o 24 (.faddr 0) [t 4],
 o 25 (.faddr 2) [t 24],
 o 26 (.load 1 false) [t 25],
 o 27 (.app 55 5 56) [t 23, t 26],
 o 28 (.faddr 4) [t 4],
 o 29 (.faddr 2) [t 28],
 o 30 (.load 1 false) [t 29],
 o 31 (.app 55 5 56) [t 27, t 30],
 o 32 .lenL [t 31],
 o 33 .mv [i 0]]
def c5_6 : EC := .rg c5_6l true
@[simp] theorem c5_6e : Rg c5_6 c5_6l true := rgE _ _
@[simp] def c5_7l : List EO := [o 34 (.bin .lss) [t 33, t 32]]
def c5_7 : EC := .rg c5_7l false
@[simp] theorem c5_7e : Rg c5_7 c5_7l false := rgE _ _
def c5_8 : EC := .cd (t 34) .skip (.ex 0)
@[simp] theorem c5_8e : Cd c5_8 (t 34) .skip (.ex 0) := cdE _ _ _
@[simp] def c5_9l : List EO := [o 35 (.iaS 5) [t 31, t 33],
 o 36 (.load 5 true) [t 35],
 o 8 (.alloc [.t (.int .i64 0), .t (.int .i64 0), .t (.int .i64 0), .t (.int .i64 0), .snil]) [],
 u (.store 5) [t 8, t 36]]
def c5_9 : EC := .rg c5_9l false
@[simp] theorem c5_9e : Rg c5_9 c5_9l false := rgE _ _
@[simp] def c5_10l : List EO := [o 37 (.faddr 0) [t 8],
 o 38 (.load 1 false) [t 37],
 o 39 (.bin .lss) [t 38, i 1],
 m 40 39,
 n 41 40 (.faddr 0) [t 8],
 n 42 40 (.load 1 false) [t 41],
 n 43 40 (.bin .gtr) [t 42, i 10],
 o 44 .pick [t 40, b true, t 43]]
def c5_10 : EC := .rg c5_10l false
@[simp] theorem c5_10e : Rg c5_10 c5_10l false := rgE _ _
@[simp] def c5_11l : List EO := [o 6 .mv [b true]]
def c5_11 : EC := .rg c5_11l false
@[simp] theorem c5_11e : Rg c5_11 c5_11l false := rgE _ _
def c5_12 : EC := .sq c5_11 .rt
@[simp] theorem c5_12e : Sq c5_12 c5_11 .rt := sqE _ _
def c5_13 : EC := .cd (t 44) c5_12 .skip
@[simp] theorem c5_13e : Cd c5_13 (t 44) c5_12 .skip := cdE _ _ _
def c5_14 : EC := .sq c5_10 c5_13
@[simp] theorem c5_14e : Sq c5_14 c5_10 c5_13 := sqE _ _
def c5_15 : EC := .sq c5_9 c5_14
@[simp] theorem c5_15e : Sq c5_15 c5_9 c5_14 := sqE _ _
def c5_16 : EC := .bk 1 c5_15
@[simp] theorem c5_16e : Bk c5_16 1 c5_15 := bkE _ _
@[simp] def c5_17l : List EO := [o 45 (.bin .add) [t 33, i 1],
 m 33 45]
def c5_17 : EC := .rg c5_17l false
@[simp] theorem c5_17e : Rg c5_17 c5_17l false := rgE _ _
def c5_18 : EC := .sq c5_16 c5_17
@[simp] theorem c5_18e : Sq c5_18 c5_16 c5_17 := sqE _ _
def c5_19 : EC := .sq c5_8 c5_18
@[simp] theorem c5_19e : Sq c5_19 c5_8 c5_18 := sqE _ _
def c5_20 : EC := .sq c5_7 c5_19
@[simp] theorem c5_20e : Sq c5_20 c5_7 c5_19 := sqE _ _
def c5_21 : EC := .bk 0 (.lp c5_20)
@[simp] theorem c5_21e : Bk c5_21 0 (.lp c5_20) := bkE _ _
def c5_22 : EC := .sq c5_6 c5_21
@[simp] theorem c5_22e : Sq c5_22 c5_6 c5_21 := sqE _ _
@[simp] def c5_23l : List EO := [o 47 (.load 21 true) [t 3],
 o 48 (.faddr 0) [t 4],
 o 49 (.load 4 true) [t 48],
 o 50 (.faddr 4) [t 4],
 o 51 (.load 4 true) [t 50],
 m 52 2,
 o 53 (.call 14) [t 47, t 49, t 51, t 52],
 m 46 53,
 o 54 (.ext 0) [t 46],
 o 55 (.ext 1) [t 46],
 o 9 (.alloc [.t (.int .i64 0), .t (.int .i64 0), .t (.int .i64 0), .t (.int .i64 0), .t (.int .i64 0), .t (.int .i64 0), .t (.int .i64 0), .t (.int .i64 0), .t (.int .i64 0), .t (.int .i64 0), .t (.int .i64 0), .t (.int .i64 0), .t (.int .i64 0), .t (.int .i64 0), .t (.int .i64 0), .t (.int .i64 0)]) [],
 u (.store 16) [t 9, t 54],
 m 10 55]
def c5_23 : EC := .rg c5_23l false
@[simp] theorem c5_23e : Rg c5_23 c5_23l false := rgE _ _
@[simp] def c5_24l : List EO := [m 56 10,
 o 57 (.bin .neq) [t 56, i 0]]
def c5_24 : EC := .rg c5_24l false
@[simp] theorem c5_24e : Rg c5_24 c5_24l false := rgE _ _
@[simp] def c5_25l : List EO := [o 58 (.load 16 true) [t 9],
 o 59 (.build [.t (.int .i64 0), .t (.int .i64 0), .t (.int .i64 0), .t (.int .i64 0), .t (.int .i64 0), .t (.int .i64 0), .t (.int .i64 0), .t (.int .i64 0), .t (.int .i64 0), .t (.int .i64 0), .t (.int .i64 0), .t (.int .i64 0), .t (.int .i64 0), .t (.int .i64 0), .t (.int .i64 0), .t (.int .i64 0)] []) [],
 o 60 (.eqv false true [1, 1, 1, 1, 1, 1, 1, 1, 1, 1, 1, 1, 1, 1, 1, 1]) [t 58, t 59],
 m 6 60]
def c5_25 : EC := .rg c5_25l false
@[simp] theorem c5_25e : Rg c5_25 c5_25l false := rgE _ _
def c5_26 : EC := .sq c5_25 .rt
@[simp] theorem c5_26e : Sq c5_26 c5_25 .rt := sqE _ _
def c5_27 : EC := .cd (t 57) c5_26 .skip
@[simp] theorem c5_27e : Cd c5_27 (t 57) c5_26 .skip := cdE _ _ _
def c5_28 : EC := .sq c5_24 c5_27
@[simp] theorem c5_28e : Sq c5_28 c5_24 c5_27 := sqE _ _
@[simp] def c5_29l : List EO := [o 61 (.faddr 1) [t 9],
 o 62 (.load 1 false) [t 61],
 o 63 (.faddr 2) [t 9],
 o 64 (.load 1 false) [t 63],
 o 65 (.bin .add) [t 62, t 64],
 o 66 (.load 16 true) [t 9],
 o 67 (.call 16) [t 66],
 o 68 (.bin .add) [t 65, t 67],
 o 69 (.faddr 3) [t 9],
 o 70 (.load 1 false) [t 69],
 o 71 (.bin .add) [t 68, t 70],
 o 72 (.faddr 4) [t 9],
 o 73 (.load 1 false) [t 72],
 o 74 (.bin .eql) [t 71, t 73],
 m 6 74]
def c5_29 : EC := .rg c5_29l true
@[simp] theorem c5_29e : Rg c5_29 c5_29l true := rgE _ _
def c5_30 : EC := .sq c5_29 .rt
@[simp] theorem c5_30e : Sq c5_30 c5_29 .rt := sqE _ _
def c5_31 : EC := .sq c5_28 c5_30
@[simp] theorem c5_31e : Sq c5_31 c5_28 c5_30 := sqE _ _
def c5_32 : EC := .sq c5_23 c5_31
@[simp] theorem c5_32e : Sq c5_32 c5_23 c5_31 := sqE _ _
def c5_33 : EC := .sq c5_22 c5_32
@[simp] theorem c5_33e : Sq c5_33 c5_22 c5_32 := sqE _ _
def c5_34 : EC := .sq c5_5 c5_33
@[simp] theorem c5_34e : Sq c5_34 c5_5 c5_33 := sqE _ _
def c5_35 : EC := .sq c5_0 c5_34
@[simp] theorem c5_35e : Sq c5_35 c5_0 c5_34 := sqE _ _
def c_tallystonelaw52_NoteExplains_5 : EC := c5_35
theorem k_5 : ecF Try.prog 5 = some (75, c_tallystonelaw52_NoteExplains_5, [.tm 6]) := by kernel_rfl

/-- tallystone/tallystonelaw52.NoteExplains, with slices that grow in boxes -/
@[simp] def b5_0l : List EO := [o 3 .box [t 0],
 o 4 .box [t 1],
 o 6 .mv [b false]]
def b5_0 : EC := .rg b5_0l false
@[simp] theorem b5_0e : Rg b5_0 b5_0l false := rgE _ _
@[simp] def b5_1l : List EO := [o 11 (.call 12) [],
 o 12 (.un .not) [t 11],
 m 13 12,
 n 14 13 (.load 21 true) [t 3],
 n 15 13 (.faddr 0) [t 4],
 n 16 13 (.load 4 true) [t 15],
 n 17 13 (.faddr 4) [t 4],
 n 18 13 (.load 4 true) [t 17],
 n 19 13 (.call 13) [t 14, t 16, t 18],
 n 20 13 (.un .not) [t 19],
 o 21 .pick [t 13, b true, t 20]]
def b5_1 : EC := .rg b5_1l false
@[simp] theorem b5_1e : Rg b5_1 b5_1l false := rgE _ _
@[simp] def b5_2l : List EO := [o 22 (.call 12) [],
 m 6 22]
def b5_2 : EC := .rg b5_2l false
@[simp] theorem b5_2e : Rg b5_2 b5_2l false := rgE _ _
def b5_3 : EC := .sq b5_2 .rt
@[simp] theorem b5_3e : Sq b5_3 b5_2 .rt := sqE _ _
def b5_4 : EC := .cd (t 21) b5_3 .skip
@[simp] theorem b5_4e : Cd b5_4 (t 21) b5_3 .skip := cdE _ _ _
def b5_5 : EC := .sq b5_1 b5_4
@[simp] theorem b5_5e : Sq b5_5 b5_1 b5_4 := sqE _ _
@[simp] def b5_6l : List EO := [o 23 (.bsl 5) []]
def b5_6 : EC := .rg b5_6l true
@[simp] theorem b5_6e : Rg b5_6 b5_6l true := rgE _ _
@[simp] def b5_7l : List EO := [o 24 (.faddr 0) [t 4]]
def b5_7 : EC := .rg b5_7l true
@[simp] theorem b5_7e : Rg b5_7 b5_7l true := rgE _ _
@[simp] def b5_8l : List EO := [o 25 (.faddr 2) [t 24]]
def b5_8 : EC := .rg b5_8l true
@[simp] theorem b5_8e : Rg b5_8 b5_8l true := rgE _ _
@[simp] def b5_9l : List EO := [o 26 (.load 1 false) [t 25]]
def b5_9 : EC := .rg b5_9l true
@[simp] theorem b5_9e : Rg b5_9 b5_9l true := rgE _ _
@[simp] def b5_10l : List EO := [o 28 (.faddr 4) [t 4]]
def b5_10 : EC := .rg b5_10l true
@[simp] theorem b5_10e : Rg b5_10 b5_10l true := rgE _ _
@[simp] def b5_11l : List EO := [o 29 (.faddr 2) [t 28]]
def b5_11 : EC := .rg b5_11l true
@[simp] theorem b5_11e : Rg b5_11 b5_11l true := rgE _ _
@[simp] def b5_12l : List EO := [o 33 .mv [i 0]]
def b5_12 : EC := .rg b5_12l true
@[simp] theorem b5_12e : Rg b5_12 b5_12l true := rgE _ _
@[simp] def b5_13l : List EO := [o 27 (.appB 55 5 56) [t 23, t 26]]
def b5_13 : EC := .rg b5_13l true
@[simp] theorem b5_13e : Rg b5_13 b5_13l true := rgE _ _
@[simp] def b5_14l : List EO := [o 30 (.load 1 false) [t 29]]
def b5_14 : EC := .rg b5_14l true
@[simp] theorem b5_14e : Rg b5_14 b5_14l true := rgE _ _
@[simp] def b5_15l : List EO := [o 31 (.appB 55 5 56) [t 27, t 30]]
def b5_15 : EC := .rg b5_15l true
@[simp] theorem b5_15e : Rg b5_15 b5_15l true := rgE _ _
@[simp] def b5_16l : List EO := [o 32 .lenL [t 31]]
def b5_16 : EC := .rg b5_16l true
@[simp] theorem b5_16e : Rg b5_16 b5_16l true := rgE _ _
def b5_17 : EC := .sq b5_16 .skip
@[simp] theorem b5_17e : Sq b5_17 b5_16 .skip := sqE _ _
def b5_18 : EC := .sq b5_15 b5_17
@[simp] theorem b5_18e : Sq b5_18 b5_15 b5_17 := sqE _ _
def b5_19 : EC := .sq b5_14 b5_18
@[simp] theorem b5_19e : Sq b5_19 b5_14 b5_18 := sqE _ _
def b5_20 : EC := .sq b5_13 b5_19
@[simp] theorem b5_20e : Sq b5_20 b5_13 b5_19 := sqE _ _
@[simp] def b5_21l : List EO := [o 30 (.load 1 false) [t 29]]
def b5_21 : EC := .rg b5_21l true
@[simp] theorem b5_21e : Rg b5_21 b5_21l true := rgE _ _
@[simp] def b5_22l : List EO := [o 27 (.appB 55 5 56) [t 23, t 26]]
def b5_22 : EC := .rg b5_22l true
@[simp] theorem b5_22e : Rg b5_22 b5_22l true := rgE _ _
@[simp] def b5_23l : List EO := [o 31 (.appB 55 5 56) [t 27, t 30]]
def b5_23 : EC := .rg b5_23l true
@[simp] theorem b5_23e : Rg b5_23 b5_23l true := rgE _ _
@[simp] def b5_24l : List EO := [o 32 .lenL [t 31]]
def b5_24 : EC := .rg b5_24l true
@[simp] theorem b5_24e : Rg b5_24 b5_24l true := rgE _ _
def b5_25 : EC := .sq b5_24 .skip
@[simp] theorem b5_25e : Sq b5_25 b5_24 .skip := sqE _ _
def b5_26 : EC := .sq b5_23 b5_25
@[simp] theorem b5_26e : Sq b5_26 b5_23 b5_25 := sqE _ _
def b5_27 : EC := .sq b5_22 b5_26
@[simp] theorem b5_27e : Sq b5_27 b5_22 b5_26 := sqE _ _
def b5_28 : EC := .sq b5_21 b5_27
@[simp] theorem b5_28e : Sq b5_28 b5_21 b5_27 := sqE _ _
def b5_29 : EC := .al b5_20 b5_28
@[simp] theorem b5_29e : Al b5_29 b5_20 b5_28 := alE _ _
def b5_30 : EC := .sq b5_12 b5_29
@[simp] theorem b5_30e : Sq b5_30 b5_12 b5_29 := sqE _ _
def b5_31 : EC := .sq b5_11 b5_30
@[simp] theorem b5_31e : Sq b5_31 b5_11 b5_30 := sqE _ _
def b5_32 : EC := .sq b5_10 b5_31
@[simp] theorem b5_32e : Sq b5_32 b5_10 b5_31 := sqE _ _
def b5_33 : EC := .sq b5_9 b5_32
@[simp] theorem b5_33e : Sq b5_33 b5_9 b5_32 := sqE _ _
def b5_34 : EC := .sq b5_8 b5_33
@[simp] theorem b5_34e : Sq b5_34 b5_8 b5_33 := sqE _ _
def b5_35 : EC := .sq b5_7 b5_34
@[simp] theorem b5_35e : Sq b5_35 b5_7 b5_34 := sqE _ _
def b5_36 : EC := .sq b5_6 b5_35
@[simp] theorem b5_36e : Sq b5_36 b5_6 b5_35 := sqE _ _
@[simp] def b5_37l : List EO := [o 34 (.bin .lss) [t 33, t 32]]
def b5_37 : EC := .rg b5_37l false
@[simp] theorem b5_37e : Rg b5_37 b5_37l false := rgE _ _
def b5_38 : EC := .cd (t 34) .skip (.ex 0)
@[simp] theorem b5_38e : Cd b5_38 (t 34) .skip (.ex 0) := cdE _ _ _
@[simp] def b5_39l : List EO := [o 35 (.iaS 5) [t 31, t 33],
 o 36 (.load 5 true) [t 35],
 o 8 (.alloc [.t (.int .i64 0), .t (.int .i64 0), .t (.int .i64 0), .t (.int .i64 0), .snil]) [],
 u (.store 5) [t 8, t 36]]
def b5_39 : EC := .rg b5_39l false
@[simp] theorem b5_39e : Rg b5_39 b5_39l false := rgE _ _
@[simp] def b5_40l : List EO := [o 37 (.faddr 0) [t 8],
 o 38 (.load 1 false) [t 37],
 o 39 (.bin .lss) [t 38, i 1],
 m 40 39,
 n 41 40 (.faddr 0) [t 8],
 n 42 40 (.load 1 false) [t 41],
 n 43 40 (.bin .gtr) [t 42, i 10],
 o 44 .pick [t 40, b true, t 43]]
def b5_40 : EC := .rg b5_40l false
@[simp] theorem b5_40e : Rg b5_40 b5_40l false := rgE _ _
@[simp] def b5_41l : List EO := [o 6 .mv [b true]]
def b5_41 : EC := .rg b5_41l false
@[simp] theorem b5_41e : Rg b5_41 b5_41l false := rgE _ _
def b5_42 : EC := .sq b5_41 .rt
@[simp] theorem b5_42e : Sq b5_42 b5_41 .rt := sqE _ _
def b5_43 : EC := .cd (t 44) b5_42 .skip
@[simp] theorem b5_43e : Cd b5_43 (t 44) b5_42 .skip := cdE _ _ _
def b5_44 : EC := .sq b5_40 b5_43
@[simp] theorem b5_44e : Sq b5_44 b5_40 b5_43 := sqE _ _
def b5_45 : EC := .sq b5_39 b5_44
@[simp] theorem b5_45e : Sq b5_45 b5_39 b5_44 := sqE _ _
def b5_46 : EC := .bk 1 b5_45
@[simp] theorem b5_46e : Bk b5_46 1 b5_45 := bkE _ _
@[simp] def b5_47l : List EO := [o 45 (.bin .add) [t 33, i 1],
 m 33 45]
def b5_47 : EC := .rg b5_47l false
@[simp] theorem b5_47e : Rg b5_47 b5_47l false := rgE _ _
def b5_48 : EC := .sq b5_46 b5_47
@[simp] theorem b5_48e : Sq b5_48 b5_46 b5_47 := sqE _ _
def b5_49 : EC := .sq b5_38 b5_48
@[simp] theorem b5_49e : Sq b5_49 b5_38 b5_48 := sqE _ _
def b5_50 : EC := .sq b5_37 b5_49
@[simp] theorem b5_50e : Sq b5_50 b5_37 b5_49 := sqE _ _
def b5_51 : EC := .bk 0 (.lp b5_50)
@[simp] theorem b5_51e : Bk b5_51 0 (.lp b5_50) := bkE _ _
def b5_52 : EC := .sq b5_36 b5_51
@[simp] theorem b5_52e : Sq b5_52 b5_36 b5_51 := sqE _ _
@[simp] def b5_53l : List EO := [o 47 (.load 21 true) [t 3],
 o 48 (.faddr 0) [t 4],
 o 49 (.load 4 true) [t 48],
 o 50 (.faddr 4) [t 4],
 o 51 (.load 4 true) [t 50],
 m 52 2,
 o 53 (.call 14) [t 47, t 49, t 51, t 52],
 m 46 53,
 o 54 (.ext 0) [t 46],
 o 55 (.ext 1) [t 46],
 o 9 (.alloc [.t (.int .i64 0), .t (.int .i64 0), .t (.int .i64 0), .t (.int .i64 0), .t (.int .i64 0), .t (.int .i64 0), .t (.int .i64 0), .t (.int .i64 0), .t (.int .i64 0), .t (.int .i64 0), .t (.int .i64 0), .t (.int .i64 0), .t (.int .i64 0), .t (.int .i64 0), .t (.int .i64 0), .t (.int .i64 0)]) [],
 u (.store 16) [t 9, t 54],
 m 10 55]
def b5_53 : EC := .rg b5_53l false
@[simp] theorem b5_53e : Rg b5_53 b5_53l false := rgE _ _
@[simp] def b5_54l : List EO := [m 56 10,
 o 57 (.bin .neq) [t 56, i 0]]
def b5_54 : EC := .rg b5_54l false
@[simp] theorem b5_54e : Rg b5_54 b5_54l false := rgE _ _
@[simp] def b5_55l : List EO := [o 58 (.load 16 true) [t 9],
 o 59 (.build [.t (.int .i64 0), .t (.int .i64 0), .t (.int .i64 0), .t (.int .i64 0), .t (.int .i64 0), .t (.int .i64 0), .t (.int .i64 0), .t (.int .i64 0), .t (.int .i64 0), .t (.int .i64 0), .t (.int .i64 0), .t (.int .i64 0), .t (.int .i64 0), .t (.int .i64 0), .t (.int .i64 0), .t (.int .i64 0)] []) [],
 o 60 (.eqv false true [1, 1, 1, 1, 1, 1, 1, 1, 1, 1, 1, 1, 1, 1, 1, 1]) [t 58, t 59],
 m 6 60]
def b5_55 : EC := .rg b5_55l false
@[simp] theorem b5_55e : Rg b5_55 b5_55l false := rgE _ _
def b5_56 : EC := .sq b5_55 .rt
@[simp] theorem b5_56e : Sq b5_56 b5_55 .rt := sqE _ _
def b5_57 : EC := .cd (t 57) b5_56 .skip
@[simp] theorem b5_57e : Cd b5_57 (t 57) b5_56 .skip := cdE _ _ _
def b5_58 : EC := .sq b5_54 b5_57
@[simp] theorem b5_58e : Sq b5_58 b5_54 b5_57 := sqE _ _
@[simp] def b5_59l : List EO := [o 61 (.faddr 1) [t 9],
 o 62 (.load 1 false) [t 61],
 o 63 (.faddr 2) [t 9],
 o 64 (.load 1 false) [t 63],
 o 65 (.bin .add) [t 62, t 64],
 o 66 (.load 16 true) [t 9],
 o 67 (.call 16) [t 66],
 o 68 (.bin .add) [t 65, t 67],
 o 69 (.faddr 3) [t 9],
 o 70 (.load 1 false) [t 69],
 o 71 (.bin .add) [t 68, t 70],
 o 72 (.faddr 4) [t 9],
 o 73 (.load 1 false) [t 72],
 o 74 (.bin .eql) [t 71, t 73],
 m 6 74]
def b5_59 : EC := .rg b5_59l true
@[simp] theorem b5_59e : Rg b5_59 b5_59l true := rgE _ _
def b5_60 : EC := .sq b5_59 .rt
@[simp] theorem b5_60e : Sq b5_60 b5_59 .rt := sqE _ _
def b5_61 : EC := .sq b5_58 b5_60
@[simp] theorem b5_61e : Sq b5_61 b5_58 b5_60 := sqE _ _
def b5_62 : EC := .sq b5_53 b5_61
@[simp] theorem b5_62e : Sq b5_62 b5_53 b5_61 := sqE _ _
def b5_63 : EC := .sq b5_52 b5_62
@[simp] theorem b5_63e : Sq b5_63 b5_52 b5_62 := sqE _ _
def b5_64 : EC := .sq b5_5 b5_63
@[simp] theorem b5_64e : Sq b5_64 b5_5 b5_63 := sqE _ _
def b5_65 : EC := .sq b5_0 b5_64
@[simp] theorem b5_65e : Sq b5_65 b5_0 b5_64 := sqE _ _
def b_tallystonelaw52_NoteExplains_5 : EC := b5_65
theorem kb_5 : ecB Try.prog 5 = some (75, b_tallystonelaw52_NoteExplains_5, [.tm 6]) := by kernel_rfl

/-- tallystone/tallystonelaw52.NoteSame -/
@[simp] def c6_0l : List EO := [o 3 .box [t 0],
 o 4 .box [t 1],
 o 6 .mv [b false]]
def c6_0 : EC := .rg c6_0l false
@[simp] theorem c6_0e : Rg c6_0 c6_0l false := rgE _ _
@[simp] def c6_1l : List EO := [o 19 (.call 12) [],
 o 20 (.un .not) [t 19],
 m 21 20,
 n 22 21 (.load 21 true) [t 3],
 n 23 21 (.load 4 true) [t 4],
 n 24 21 (.load 4 true) [t 4],
 n 25 21 (.call 13) [t 22, t 23, t 24],
 n 26 21 (.un .not) [t 25],
 o 27 .pick [t 21, b true, t 26],
 m 28 27,
 n 29 28 (.load 21 true) [t 3],
 n 30 28 (.call 18) [t 29],
 n 31 28 (.un .not) [t 30],
 o 32 .pick [t 28, b true, t 31]]
def c6_1 : EC := .rg c6_1l false
@[simp] theorem c6_1e : Rg c6_1 c6_1l false := rgE _ _
@[simp] def c6_2l : List EO := [o 33 (.call 12) [],
 m 6 33]
def c6_2 : EC := .rg c6_2l false
@[simp] theorem c6_2e : Rg c6_2 c6_2l false := rgE _ _
def c6_3 : EC := .sq c6_2 .rt
@[simp] theorem c6_3e : Sq c6_3 c6_2 .rt := sqE _ _
def c6_4 : EC := .cd (t 32) c6_3 .skip
@[simp] theorem c6_4e : Cd c6_4 (t 32) c6_3 .skip := cdE _ _ _
def c6_5 : EC := .sq c6_1 c6_4
@[simp] theorem c6_5e : Sq c6_5 c6_1 c6_4 := sqE _ _
@[simp] def c6_6l : List EO := [o 35 (.faddr 1) [t 3],
 o 36 (.load 3 true) [t 35],
 o 37 (.faddr 0) [t 4],
 o 38 (.load 1 false) [t 37],
 o 39 (.call 19) [t 36, t 38],
 m 34 39,
 o 40 (.ext 0) [t 34],
 o 41 (.ext 1) [t 34],
 m 7 40,
 m 8 41]
def c6_6 : EC := .rg c6_6l false
@[simp] theorem c6_6e : Rg c6_6 c6_6l false := rgE _ _
@[simp] def c6_7l : List EO := [o 43 (.faddr 1) [t 3],
 o 44 (.load 3 true) [t 43],
 o 45 (.faddr 0) [t 4],
 o 46 (.load 1 false) [t 45],
 o 47 (.call 20) [t 44, t 46],
 m 42 47,
 o 48 (.ext 0) [t 42],
 o 49 (.ext 1) [t 42],
 m 9 48,
 m 10 49]
def c6_7 : EC := .rg c6_7l false
@[simp] theorem c6_7e : Rg c6_7 c6_7l false := rgE _ _
@[simp] def c6_8l : List EO := [m 50 8,
 o 51 (.bin .neq) [t 50, i 0],
 m 52 51,
 n 53 52 .mv [t 10],
 n 54 52 (.bin .neq) [t 53, i 0],
 o 55 .pick [t 52, b true, t 54]]
def c6_8 : EC := .rg c6_8l false
@[simp] theorem c6_8e : Rg c6_8 c6_8l false := rgE _ _
@[simp] def c6_9l : List EO := [o 6 .mv [b true]]
def c6_9 : EC := .rg c6_9l false
@[simp] theorem c6_9e : Rg c6_9 c6_9l false := rgE _ _
def c6_10 : EC := .sq c6_9 .rt
@[simp] theorem c6_10e : Sq c6_10 c6_9 .rt := sqE _ _
def c6_11 : EC := .cd (t 55) c6_10 .skip
@[simp] theorem c6_11e : Cd c6_11 (t 55) c6_10 .skip := cdE _ _ _
def c6_12 : EC := .sq c6_8 c6_11
@[simp] theorem c6_12e : Sq c6_12 c6_8 c6_11 := sqE _ _
@[simp] def c6_13l : List EO := [o 56 (.load 4 true) [t 4]]
def c6_13 : EC := .rg c6_13l true
@[simp] theorem c6_13e : Rg c6_13 c6_13l true := rgE _ _
@[simp] def c6_14l : List EO := [o 57 (.load 4 true) [t 4]]
def c6_14 : EC := .rg c6_14l true
@[simp] theorem c6_14e : Rg c6_14 c6_14l true := rgE _ _
@[simp] def c6_15l : List EO := [o 11 (.alloc [.t (.int .i64 0), .snil, .snil, .snil]) []]
def c6_15 : EC := .rg c6_15l true
@[simp] theorem c6_15e : Rg c6_15 c6_15l true := rgE _ _
@[simp] def c6_16l : List EO := [o 12 (.alloc [.t (.int .i64 0), .snil, .snil, .snil]) []]
def c6_16 : EC := .rg c6_16l true
@[simp] theorem c6_16e : Rg c6_16 c6_16l true := rgE _ _
@[simp] def c6_17l : List EO := [u (.store 4) [t 11, t 56]]
def c6_17 : EC := .rg c6_17l true
@[simp] theorem c6_17e : Rg c6_17 c6_17l true := rgE _ _
@[simp] def c6_18l : List EO := [u (.store 4) [t 12, t 57]]
def c6_18 : EC := .rg c6_18l true
@[simp] theorem c6_18e : Rg c6_18 c6_18l true := rgE _ _
def c6_19 : EC := .sq c6_18 .skip
@[simp] theorem c6_19e : Sq c6_19 c6_18 .skip := sqE _ _
def c6_20 : EC := .sq c6_17 c6_19
@[simp] theorem c6_20e : Sq c6_20 c6_17 c6_19 := sqE _ _
def c6_21 : EC := .sq c6_16 c6_20
@[simp] theorem c6_21e : Sq c6_21 c6_16 c6_20 := sqE _ _
def c6_22 : EC := .sq c6_15 c6_21
@[simp] theorem c6_22e : Sq c6_22 c6_15 c6_21 := sqE _ _
@[simp] def c6_23l : List EO := [o 12 (.alloc [.t (.int .i64 0), .snil, .snil, .snil]) []]
def c6_23 : EC := .rg c6_23l true
@[simp] theorem c6_23e : Rg c6_23 c6_23l true := rgE _ _
@[simp] def c6_24l : List EO := [o 11 (.alloc [.t (.int .i64 0), .snil, .snil, .snil]) []]
def c6_24 : EC := .rg c6_24l true
@[simp] theorem c6_24e : Rg c6_24 c6_24l true := rgE _ _
@[simp] def c6_25l : List EO := [u (.store 4) [t 11, t 56]]
def c6_25 : EC := .rg c6_25l true
@[simp] theorem c6_25e : Rg c6_25 c6_25l true := rgE _ _
@[simp] def c6_26l : List EO := [u (.store 4) [t 12, t 57]]
def c6_26 : EC := .rg c6_26l true
@[simp] theorem c6_26e : Rg c6_26 c6_26l true := rgE _ _
def c6_27 : EC := .sq c6_26 .skip
@[simp] theorem c6_27e : Sq c6_27 c6_26 .skip := sqE _ _
def c6_28 : EC := .sq c6_25 c6_27
@[simp] theorem c6_28e : Sq c6_28 c6_25 c6_27 := sqE _ _
def c6_29 : EC := .sq c6_24 c6_28
@[simp] theorem c6_29e : Sq c6_29 c6_24 c6_28 := sqE _ _
def c6_30 : EC := .sq c6_23 c6_29
@[simp] theorem c6_30e : Sq c6_30 c6_23 c6_29 := sqE _ _
def c6_31 : EC := .al c6_22 c6_30
@[simp] theorem c6_31e : Al c6_31 c6_22 c6_30 := alE _ _
def c6_32 : EC := .sq c6_14 c6_31
@[simp] theorem c6_32e : Sq c6_32 c6_14 c6_31 := sqE _ _
@[simp] def c6_33l : List EO := [o 11 (.alloc [.t (.int .i64 0), .snil, .snil, .snil]) []]
def c6_33 : EC := .rg c6_33l true
@[simp] theorem c6_33e : Rg c6_33 c6_33l true := rgE _ _
@[simp] def c6_34l : List EO := [o 57 (.load 4 true) [t 4]]
def c6_34 : EC := .rg c6_34l true
@[simp] theorem c6_34e : Rg c6_34 c6_34l true := rgE _ _
@[simp] def c6_35l : List EO := [o 12 (.alloc [.t (.int .i64 0), .snil, .snil, .snil]) []]
def c6_35 : EC := .rg c6_35l true
@[simp] theorem c6_35e : Rg c6_35 c6_35l true := rgE _ _
@[simp] def c6_36l : List EO := [u (.store 4) [t 11, t 56]]
def c6_36 : EC := .rg c6_36l true
@[simp] theorem c6_36e : Rg c6_36 c6_36l true := rgE _ _
@[simp] def c6_37l : List EO := [u (.store 4) [t 12, t 57]]
def c6_37 : EC := .rg c6_37l true
@[simp] theorem c6_37e : Rg c6_37 c6_37l true := rgE _ _
def c6_38 : EC := .sq c6_37 .skip
@[simp] theorem c6_38e : Sq c6_38 c6_37 .skip := sqE _ _
def c6_39 : EC := .sq c6_36 c6_38
@[simp] theorem c6_39e : Sq c6_39 c6_36 c6_38 := sqE _ _
def c6_40 : EC := .sq c6_35 c6_39
@[simp] theorem c6_40e : Sq c6_40 c6_35 c6_39 := sqE _ _
def c6_41 : EC := .sq c6_34 c6_40
@[simp] theorem c6_41e : Sq c6_41 c6_34 c6_40 := sqE _ _
@[simp] def c6_42l : List EO := [o 12 (.alloc [.t (.int .i64 0), .snil, .snil, .snil]) []]
def c6_42 : EC := .rg c6_42l true
@[simp] theorem c6_42e : Rg c6_42 c6_42l true := rgE _ _
@[simp] def c6_43l : List EO := [o 57 (.load 4 true) [t 4]]
def c6_43 : EC := .rg c6_43l true
@[simp] theorem c6_43e : Rg c6_43 c6_43l true := rgE _ _
@[simp] def c6_44l : List EO := [u (.store 4) [t 11, t 56]]
def c6_44 : EC := .rg c6_44l true
@[simp] theorem c6_44e : Rg c6_44 c6_44l true := rgE _ _
@[simp] def c6_45l : List EO := [u (.store 4) [t 12, t 57]]
def c6_45 : EC := .rg c6_45l true
@[simp] theorem c6_45e : Rg c6_45 c6_45l true := rgE _ _
def c6_46 : EC := .sq c6_45 .skip
@[simp] theorem c6_46e : Sq c6_46 c6_45 .skip := sqE _ _
def c6_47 : EC := .sq c6_44 c6_46
@[simp] theorem c6_47e : Sq c6_47 c6_44 c6_46 := sqE _ _
def c6_48 : EC := .sq c6_43 c6_47
@[simp] theorem c6_48e : Sq c6_48 c6_43 c6_47 := sqE _ _
@[simp] def c6_49l : List EO := [u (.store 4) [t 11, t 56]]
def c6_49 : EC := .rg c6_49l true
@[simp] theorem c6_49e : Rg c6_49 c6_49l true := rgE _ _
@[simp] def c6_50l : List EO := [o 57 (.load 4 true) [t 4]]
def c6_50 : EC := .rg c6_50l true
@[simp] theorem c6_50e : Rg c6_50 c6_50l true := rgE _ _
@[simp] def c6_51l : List EO := [u (.store 4) [t 12, t 57]]
def c6_51 : EC := .rg c6_51l true
@[simp] theorem c6_51e : Rg c6_51 c6_51l true := rgE _ _
def c6_52 : EC := .sq c6_51 .skip
@[simp] theorem c6_52e : Sq c6_52 c6_51 .skip := sqE _ _
def c6_53 : EC := .sq c6_50 c6_52
@[simp] theorem c6_53e : Sq c6_53 c6_50 c6_52 := sqE _ _
def c6_54 : EC := .sq c6_49 c6_53
@[simp] theorem c6_54e : Sq c6_54 c6_49 c6_53 := sqE _ _
def c6_55 : EC := .al c6_48 c6_54
@[simp] theorem c6_55e : Al c6_55 c6_48 c6_54 := alE _ _
def c6_56 : EC := .sq c6_42 c6_55
@[simp] theorem c6_56e : Sq c6_56 c6_42 c6_55 := sqE _ _
def c6_57 : EC := .al c6_41 c6_56
@[simp] theorem c6_57e : Al c6_57 c6_41 c6_56 := alE _ _
def c6_58 : EC := .sq c6_33 c6_57
@[simp] theorem c6_58e : Sq c6_58 c6_33 c6_57 := sqE _ _
@[simp] def c6_59l : List EO := [o 12 (.alloc [.t (.int .i64 0), .snil, .snil, .snil]) []]
def c6_59 : EC := .rg c6_59l true
@[simp] theorem c6_59e : Rg c6_59 c6_59l true := rgE _ _
@[simp] def c6_60l : List EO := [o 57 (.load 4 true) [t 4]]
def c6_60 : EC := .rg c6_60l true
@[simp] theorem c6_60e : Rg c6_60 c6_60l true := rgE _ _
@[simp] def c6_61l : List EO := [o 11 (.alloc [.t (.int .i64 0), .snil, .snil, .snil]) []]
def c6_61 : EC := .rg c6_61l true
@[simp] theorem c6_61e : Rg c6_61 c6_61l true := rgE _ _
@[simp] def c6_62l : List EO := [u (.store 4) [t 11, t 56]]
def c6_62 : EC := .rg c6_62l true
@[simp] theorem c6_62e : Rg c6_62 c6_62l true := rgE _ _
@[simp] def c6_63l : List EO := [u (.store 4) [t 12, t 57]]
def c6_63 : EC := .rg c6_63l true
@[simp] theorem c6_63e : Rg c6_63 c6_63l true := rgE _ _
def c6_64 : EC := .sq c6_63 .skip
@[simp] theorem c6_64e : Sq c6_64 c6_63 .skip := sqE _ _
def c6_65 : EC := .sq c6_62 c6_64
@[simp] theorem c6_65e : Sq c6_65 c6_62 c6_64 := sqE _ _
def c6_66 : EC := .sq c6_61 c6_65
@[simp] theorem c6_66e : Sq c6_66 c6_61 c6_65 := sqE _ _
def c6_67 : EC := .sq c6_60 c6_66
@[simp] theorem c6_67e : Sq c6_67 c6_60 c6_66 := sqE _ _
@[simp] def c6_68l : List EO := [o 11 (.alloc [.t (.int .i64 0), .snil, .snil, .snil]) []]
def c6_68 : EC := .rg c6_68l true
@[simp] theorem c6_68e : Rg c6_68 c6_68l true := rgE _ _
@[simp] def c6_69l : List EO := [o 57 (.load 4 true) [t 4]]
def c6_69 : EC := .rg c6_69l true
@[simp] theorem c6_69e : Rg c6_69 c6_69l true := rgE _ _
@[simp] def c6_70l : List EO := [u (.store 4) [t 11, t 56]]
def c6_70 : EC := .rg c6_70l true
@[simp] theorem c6_70e : Rg c6_70 c6_70l true := rgE _ _
@[simp] def c6_71l : List EO := [u (.store 4) [t 12, t 57]]
def c6_71 : EC := .rg c6_71l true
@[simp] theorem c6_71e : Rg c6_71 c6_71l true := rgE _ _
def c6_72 : EC := .sq c6_71 .skip
@[simp] theorem c6_72e : Sq c6_72 c6_71 .skip := sqE _ _
def c6_73 : EC := .sq c6_70 c6_72
@[simp] theorem c6_73e : Sq c6_73 c6_70 c6_72 := sqE _ _
def c6_74 : EC := .sq c6_69 c6_73
@[simp] theorem c6_74e : Sq c6_74 c6_69 c6_73 := sqE _ _
@[simp] def c6_75l : List EO := [u (.store 4) [t 11, t 56]]
def c6_75 : EC := .rg c6_75l true
@[simp] theorem c6_75e : Rg c6_75 c6_75l true := rgE _ _
@[simp] def c6_76l : List EO := [o 57 (.load 4 true) [t 4]]
def c6_76 : EC := .rg c6_76l true
@[simp] theorem c6_76e : Rg c6_76 c6_76l true := rgE _ _
@[simp] def c6_77l : List EO := [u (.store 4) [t 12, t 57]]
def c6_77 : EC := .rg c6_77l true
@[simp] theorem c6_77e : Rg c6_77 c6_77l true := rgE _ _
def c6_78 : EC := .sq c6_77 .skip
@[simp] theorem c6_78e : Sq c6_78 c6_77 .skip := sqE _ _
def c6_79 : EC := .sq c6_76 c6_78
@[simp] theorem c6_79e : Sq c6_79 c6_76 c6_78 := sqE _ _
def c6_80 : EC := .sq c6_75 c6_79
@[simp] theorem c6_80e : Sq c6_80 c6_75 c6_79 := sqE _ _
def c6_81 : EC := .al c6_74 c6_80
@[simp] theorem c6_81e : Al c6_81 c6_74 c6_80 := alE _ _
def c6_82 : EC := .sq c6_68 c6_81
@[simp] theorem c6_82e : Sq c6_82 c6_68 c6_81 := sqE _ _
def c6_83 : EC := .al c6_67 c6_82
@[simp] theorem c6_83e : Al c6_83 c6_67 c6_82 := alE _ _
def c6_84 : EC := .sq c6_59 c6_83
@[simp] theorem c6_84e : Sq c6_84 c6_59 c6_83 := sqE _ _
def c6_85 : EC := .al c6_58 c6_84
@[simp] theorem c6_85e : Al c6_85 c6_58 c6_84 := alE _ _
def c6_86 : EC := .al c6_32 c6_85
@[simp] theorem c6_86e : Al c6_86 c6_32 c6_85 := alE _ _
def c6_87 : EC := .sq c6_13 c6_86
@[simp] theorem c6_87e : Sq c6_87 c6_13 c6_86 := sqE _ _
@[simp] def c6_88l : List EO := [o 58 (.faddr 1) [t 11],
 u (.store 1) [t 58, c (.snil)],
 o 59 (.faddr 1) [t 12],
 u (.store 1) [t 59, c (.snil)]]
def c6_88 : EC := .rg c6_88l false
@[simp] theorem c6_88e : Rg c6_88 c6_88l false := rgE _ _
@[simp] def c6_89l : List EO := [o 60 (.faddr 1) [t 4],
 o 61 (.load 1 false) [t 60],
 o 62 .lenL [t 61],
 o 63 .mv [i 0]]
def c6_89 : EC := .rg c6_89l false
@[simp] theorem c6_89e : Rg c6_89 c6_89l false := rgE _ _
@[simp] def c6_90l : List EO := [o 64 (.bin .lss) [t 63, t 62]]
def c6_90 : EC := .rg c6_90l false
@[simp] theorem c6_90e : Rg c6_90 c6_90l false := rgE _ _
def c6_91 : EC := .cd (t 64) .skip (.ex 0)
@[simp] theorem c6_91e : Cd c6_91 (t 64) .skip (.ex 0) := cdE _ _ _
@[simp] def c6_92l : List EO := [o 65 (.iaS 7) [t 61, t 63],
 o 66 (.load 7 true) [t 65],
 o 14 (.alloc [.t (.int .i64 0), .t (.int .i64 0), .t (.int .i64 0), .t (.int .i64 0), .t (.int .i64 0), .t (.int .i64 0), .t (.int .i64 0)]) [],
 u (.store 7) [t 14, t 66]]
def c6_92 : EC := .rg c6_92l false
@[simp] theorem c6_92e : Rg c6_92 c6_92l false := rgE _ _
@[simp] def c6_93l : List EO := [o 67 (.faddr 5) [t 14],
 o 68 (.load 1 false) [t 67],
 m 69 7,
 o 70 (.bin .lss) [t 68, t 69]]
def c6_93 : EC := .rg c6_93l false
@[simp] theorem c6_93e : Rg c6_93 c6_93l false := rgE _ _
@[simp] def c6_94l : List EO := [o 71 (.faddr 1) [t 11],
 o 72 (.load 1 false) [t 71],
 o 73 (.load 7 true) [t 14],
 o 74 (.bsl 7) [t 73],
 o 75 (.app 62 7 56) [t 72, t 74],
 o 76 (.faddr 1) [t 11],
 u (.store 1) [t 76, t 75]]
def c6_94 : EC := .rg c6_94l false
@[simp] theorem c6_94e : Rg c6_94 c6_94l false := rgE _ _
def c6_95 : EC := .cd (t 70) c6_94 .skip
@[simp] theorem c6_95e : Cd c6_95 (t 70) c6_94 .skip := cdE _ _ _
def c6_96 : EC := .sq c6_93 c6_95
@[simp] theorem c6_96e : Sq c6_96 c6_93 c6_95 := sqE _ _
@[simp] def c6_97l : List EO := [o 77 (.faddr 5) [t 14],
 o 78 (.load 1 false) [t 77],
 m 79 9,
 o 80 (.bin .leq) [t 78, t 79]]
def c6_97 : EC := .rg c6_97l false
@[simp] theorem c6_97e : Rg c6_97 c6_97l false := rgE _ _
@[simp] def c6_98l : List EO := [o 81 (.faddr 1) [t 12],
 o 82 (.load 1 false) [t 81],
 o 83 (.load 7 true) [t 14],
 o 84 (.bsl 7) [t 83],
 o 85 (.app 62 7 56) [t 82, t 84],
 o 86 (.faddr 1) [t 12],
 u (.store 1) [t 86, t 85]]
def c6_98 : EC := .rg c6_98l false
@[simp] theorem c6_98e : Rg c6_98 c6_98l false := rgE _ _
def c6_99 : EC := .cd (t 80) c6_98 .skip
@[simp] theorem c6_99e : Cd c6_99 (t 80) c6_98 .skip := cdE _ _ _
def c6_100 : EC := .sq c6_97 c6_99
@[simp] theorem c6_100e : Sq c6_100 c6_97 c6_99 := sqE _ _
def c6_101 : EC := .sq c6_96 c6_100
@[simp] theorem c6_101e : Sq c6_101 c6_96 c6_100 := sqE _ _
def c6_102 : EC := .sq c6_92 c6_101
@[simp] theorem c6_102e : Sq c6_102 c6_92 c6_101 := sqE _ _
def c6_103 : EC := .bk 1 c6_102
@[simp] theorem c6_103e : Bk c6_103 1 c6_102 := bkE _ _
@[simp] def c6_104l : List EO := [o 87 (.bin .add) [t 63, i 1],
 m 63 87]
def c6_104 : EC := .rg c6_104l false
@[simp] theorem c6_104e : Rg c6_104 c6_104l false := rgE _ _
def c6_105 : EC := .sq c6_103 c6_104
@[simp] theorem c6_105e : Sq c6_105 c6_103 c6_104 := sqE _ _
def c6_106 : EC := .sq c6_91 c6_105
@[simp] theorem c6_106e : Sq c6_106 c6_91 c6_105 := sqE _ _
def c6_107 : EC := .sq c6_90 c6_106
@[simp] theorem c6_107e : Sq c6_107 c6_90 c6_106 := sqE _ _
def c6_108 : EC := .bk 0 (.lp c6_107)
@[simp] theorem c6_108e : Bk c6_108 0 (.lp c6_107) := bkE _ _
def c6_109 : EC := .sq c6_89 c6_108
@[simp] theorem c6_109e : Sq c6_109 c6_89 c6_108 := sqE _ _
@[simp] def c6_110l : List EO := [o 89 (.load 21 true) [t 3],
 o 90 (.load 4 true) [t 11],
 o 91 (.load 4 true) [t 12],
 m 92 2,
 o 93 (.call 14) [t 89, t 90, t 91, t 92],
 m 88 93,
 o 94 (.ext 0) [t 88],
 o 95 (.ext 1) [t 88],
 o 15 (.alloc [.t (.int .i64 0), .t (.int .i64 0), .t (.int .i64 0), .t (.int .i64 0), .t (.int .i64 0), .t (.int .i64 0), .t (.int .i64 0), .t (.int .i64 0), .t (.int .i64 0), .t (.int .i64 0), .t (.int .i64 0), .t (.int .i64 0), .t (.int .i64 0), .t (.int .i64 0), .t (.int .i64 0), .t (.int .i64 0)]) [],
 u (.store 16) [t 15, t 94],
 m 16 95]
def c6_110 : EC := .rg c6_110l false
@[simp] theorem c6_110e : Rg c6_110 c6_110l false := rgE _ _
@[simp] def c6_111l : List EO := [o 97 (.load 21 true) [t 3],
 o 98 (.load 4 true) [t 4],
 o 99 (.load 4 true) [t 4],
 m 100 2,
 o 101 (.call 14) [t 97, t 98, t 99, t 100],
 m 96 101,
 o 102 (.ext 0) [t 96],
 o 103 (.ext 1) [t 96],
 o 17 (.alloc [.t (.int .i64 0), .t (.int .i64 0), .t (.int .i64 0), .t (.int .i64 0), .t (.int .i64 0), .t (.int .i64 0), .t (.int .i64 0), .t (.int .i64 0), .t (.int .i64 0), .t (.int .i64 0), .t (.int .i64 0), .t (.int .i64 0), .t (.int .i64 0), .t (.int .i64 0), .t (.int .i64 0), .t (.int .i64 0)]) [],
 u (.store 16) [t 17, t 102],
 m 18 103]
def c6_111 : EC := .rg c6_111l false
@[simp] theorem c6_111e : Rg c6_111 c6_111l false := rgE _ _
@[simp] def c6_112l : List EO := [m 104 16,
 o 105 (.bin .eql) [t 104, i 0],
 m 106 105,
 y 107 106 (.faddr 3) [t 15],
 y 108 106 (.load 1 false) [t 107],
 y 109 106 (.bin .neq) [t 108, i 0],
 y 110 106 .mv [t 109],
 n 111 110 (.load 16 true) [t 15],
 n 112 110 (.call 16) [t 111],
 n 113 110 (.bin .neq) [t 112, i 0],
 y 114 106 .pick [t 110, b true, t 113],
 o 115 .pick [t 106, t 114, b false]]
def c6_112 : EC := .rg c6_112l false
@[simp] theorem c6_112e : Rg c6_112 c6_112l false := rgE _ _
@[simp] def c6_113l : List EO := [o 6 .mv [b false]]
def c6_113 : EC := .rg c6_113l false
@[simp] theorem c6_113e : Rg c6_113 c6_113l false := rgE _ _
def c6_114 : EC := .sq c6_113 .rt
@[simp] theorem c6_114e : Sq c6_114 c6_113 .rt := sqE _ _
def c6_115 : EC := .cd (t 115) c6_114 .skip
@[simp] theorem c6_115e : Cd c6_115 (t 115) c6_114 .skip := cdE _ _ _
def c6_116 : EC := .sq c6_112 c6_115
@[simp] theorem c6_116e : Sq c6_116 c6_112 c6_115 := sqE _ _
@[simp] def c6_117l : List EO := [m 116 18,
 o 117 (.bin .neq) [t 116, i 0],
 m 118 117,
 n 119 118 (.faddr 2) [t 17],
 n 120 118 (.load 1 false) [t 119],
 n 121 118 (.faddr 3) [t 17],
 n 122 118 (.load 1 false) [t 121],
 n 123 118 (.un .neg) [t 122],
 n 124 118 (.bin .eql) [t 120, t 123],
 n 125 118 .mv [t 124],
 y 126 125 (.faddr 5) [t 17],
 y 127 125 (.load 11 true) [t 126],
 y 128 125 (.build [.t (.int .i64 0), .t (.int .i64 0), .t (.int .i64 0), .t (.int .i64 0), .t (.int .i64 0), .t (.int .i64 0), .t (.int .i64 0), .t (.int .i64 0), .t (.int .i64 0), .t (.int .i64 0), .t (.int .i64 0)] []) [],
 y 129 125 (.eqv false true [1, 1, 1, 1, 1, 1, 1, 1, 1, 1, 1]) [t 127, t 128],
 n 130 118 .pick [t 125, t 129, b false],
 n 131 118 .mv [t 130],
 y 132 131 (.faddr 1) [t 17],
 y 133 131 (.load 1 false) [t 132],
 y 134 131 (.faddr 4) [t 17],
 y 135 131 (.load 1 false) [t 134],
 y 136 131 (.bin .eql) [t 133, t 135],
 n 137 118 .pick [t 131, t 136, b false],
 o 138 .pick [t 118, b true, t 137],
 m 6 138]
def c6_117 : EC := .rg c6_117l false
@[simp] theorem c6_117e : Rg c6_117 c6_117l false := rgE _ _
def c6_118 : EC := .sq c6_117 .rt
@[simp] theorem c6_118e : Sq c6_118 c6_117 .rt := sqE _ _
def c6_119 : EC := .sq c6_116 c6_118
@[simp] theorem c6_119e : Sq c6_119 c6_116 c6_118 := sqE _ _
def c6_120 : EC := .sq c6_111 c6_119
@[simp] theorem c6_120e : Sq c6_120 c6_111 c6_119 := sqE _ _
def c6_121 : EC := .sq c6_110 c6_120
@[simp] theorem c6_121e : Sq c6_121 c6_110 c6_120 := sqE _ _
def c6_122 : EC := .sq c6_109 c6_121
@[simp] theorem c6_122e : Sq c6_122 c6_109 c6_121 := sqE _ _
def c6_123 : EC := .sq c6_88 c6_122
@[simp] theorem c6_123e : Sq c6_123 c6_88 c6_122 := sqE _ _
def c6_124 : EC := .sq c6_87 c6_123
@[simp] theorem c6_124e : Sq c6_124 c6_87 c6_123 := sqE _ _
def c6_125 : EC := .sq c6_12 c6_124
@[simp] theorem c6_125e : Sq c6_125 c6_12 c6_124 := sqE _ _
def c6_126 : EC := .sq c6_7 c6_125
@[simp] theorem c6_126e : Sq c6_126 c6_7 c6_125 := sqE _ _
def c6_127 : EC := .sq c6_6 c6_126
@[simp] theorem c6_127e : Sq c6_127 c6_6 c6_126 := sqE _ _
def c6_128 : EC := .sq c6_5 c6_127
@[simp] theorem c6_128e : Sq c6_128 c6_5 c6_127 := sqE _ _
def c6_129 : EC := .sq c6_0 c6_128
@[simp] theorem c6_129e : Sq c6_129 c6_0 c6_128 := sqE _ _
def c_tallystonelaw52_NoteSame_6 : EC := c6_129
theorem k_6 : ecF Try.prog 6 = some (139, c_tallystonelaw52_NoteSame_6, [.tm 6]) := by kernel_rfl

/-- tallystone/tallystonelaw52.NoteSame, with slices that grow in boxes -/
@[simp] def b6_0l : List EO := [o 3 .box [t 0],
 o 4 .box [t 1],
 o 6 .mv [b false]]
def b6_0 : EC := .rg b6_0l false
@[simp] theorem b6_0e : Rg b6_0 b6_0l false := rgE _ _
@[simp] def b6_1l : List EO := [o 19 (.call 12) [],
 o 20 (.un .not) [t 19],
 m 21 20,
 n 22 21 (.load 21 true) [t 3],
 n 23 21 (.load 4 true) [t 4],
 n 24 21 (.load 4 true) [t 4],
 n 25 21 (.call 13) [t 22, t 23, t 24],
 n 26 21 (.un .not) [t 25],
 o 27 .pick [t 21, b true, t 26],
 m 28 27,
 n 29 28 (.load 21 true) [t 3],
 n 30 28 (.call 18) [t 29],
 n 31 28 (.un .not) [t 30],
 o 32 .pick [t 28, b true, t 31]]
def b6_1 : EC := .rg b6_1l false
@[simp] theorem b6_1e : Rg b6_1 b6_1l false := rgE _ _
@[simp] def b6_2l : List EO := [o 33 (.call 12) [],
 m 6 33]
def b6_2 : EC := .rg b6_2l false
@[simp] theorem b6_2e : Rg b6_2 b6_2l false := rgE _ _
def b6_3 : EC := .sq b6_2 .rt
@[simp] theorem b6_3e : Sq b6_3 b6_2 .rt := sqE _ _
def b6_4 : EC := .cd (t 32) b6_3 .skip
@[simp] theorem b6_4e : Cd b6_4 (t 32) b6_3 .skip := cdE _ _ _
def b6_5 : EC := .sq b6_1 b6_4
@[simp] theorem b6_5e : Sq b6_5 b6_1 b6_4 := sqE _ _
@[simp] def b6_6l : List EO := [o 35 (.faddr 1) [t 3],
 o 36 (.load 3 true) [t 35],
 o 37 (.faddr 0) [t 4],
 o 38 (.load 1 false) [t 37],
 o 39 (.call 19) [t 36, t 38],
 m 34 39,
 o 40 (.ext 0) [t 34],
 o 41 (.ext 1) [t 34],
 m 7 40,
 m 8 41]
def b6_6 : EC := .rg b6_6l false
@[simp] theorem b6_6e : Rg b6_6 b6_6l false := rgE _ _
@[simp] def b6_7l : List EO := [o 43 (.faddr 1) [t 3],
 o 44 (.load 3 true) [t 43],
 o 45 (.faddr 0) [t 4],
 o 46 (.load 1 false) [t 45],
 o 47 (.call 20) [t 44, t 46],
 m 42 47,
 o 48 (.ext 0) [t 42],
 o 49 (.ext 1) [t 42],
 m 9 48,
 m 10 49]
def b6_7 : EC := .rg b6_7l false
@[simp] theorem b6_7e : Rg b6_7 b6_7l false := rgE _ _
@[simp] def b6_8l : List EO := [m 50 8,
 o 51 (.bin .neq) [t 50, i 0],
 m 52 51,
 n 53 52 .mv [t 10],
 n 54 52 (.bin .neq) [t 53, i 0],
 o 55 .pick [t 52, b true, t 54]]
def b6_8 : EC := .rg b6_8l false
@[simp] theorem b6_8e : Rg b6_8 b6_8l false := rgE _ _
@[simp] def b6_9l : List EO := [o 6 .mv [b true]]
def b6_9 : EC := .rg b6_9l false
@[simp] theorem b6_9e : Rg b6_9 b6_9l false := rgE _ _
def b6_10 : EC := .sq b6_9 .rt
@[simp] theorem b6_10e : Sq b6_10 b6_9 .rt := sqE _ _
def b6_11 : EC := .cd (t 55) b6_10 .skip
@[simp] theorem b6_11e : Cd b6_11 (t 55) b6_10 .skip := cdE _ _ _
def b6_12 : EC := .sq b6_8 b6_11
@[simp] theorem b6_12e : Sq b6_12 b6_8 b6_11 := sqE _ _
@[simp] def b6_13l : List EO := [o 56 (.load 4 true) [t 4]]
def b6_13 : EC := .rg b6_13l true
@[simp] theorem b6_13e : Rg b6_13 b6_13l true := rgE _ _
@[simp] def b6_14l : List EO := [o 57 (.load 4 true) [t 4]]
def b6_14 : EC := .rg b6_14l true
@[simp] theorem b6_14e : Rg b6_14 b6_14l true := rgE _ _
@[simp] def b6_15l : List EO := [o 11 (.alloc [.t (.int .i64 0), .snil, .snil, .snil]) []]
def b6_15 : EC := .rg b6_15l true
@[simp] theorem b6_15e : Rg b6_15 b6_15l true := rgE _ _
@[simp] def b6_16l : List EO := [o 12 (.alloc [.t (.int .i64 0), .snil, .snil, .snil]) []]
def b6_16 : EC := .rg b6_16l true
@[simp] theorem b6_16e : Rg b6_16 b6_16l true := rgE _ _
@[simp] def b6_17l : List EO := [u (.store 4) [t 11, t 56]]
def b6_17 : EC := .rg b6_17l true
@[simp] theorem b6_17e : Rg b6_17 b6_17l true := rgE _ _
@[simp] def b6_18l : List EO := [u (.store 4) [t 12, t 57]]
def b6_18 : EC := .rg b6_18l true
@[simp] theorem b6_18e : Rg b6_18 b6_18l true := rgE _ _
def b6_19 : EC := .sq b6_18 .skip
@[simp] theorem b6_19e : Sq b6_19 b6_18 .skip := sqE _ _
def b6_20 : EC := .sq b6_17 b6_19
@[simp] theorem b6_20e : Sq b6_20 b6_17 b6_19 := sqE _ _
def b6_21 : EC := .sq b6_16 b6_20
@[simp] theorem b6_21e : Sq b6_21 b6_16 b6_20 := sqE _ _
def b6_22 : EC := .sq b6_15 b6_21
@[simp] theorem b6_22e : Sq b6_22 b6_15 b6_21 := sqE _ _
@[simp] def b6_23l : List EO := [o 12 (.alloc [.t (.int .i64 0), .snil, .snil, .snil]) []]
def b6_23 : EC := .rg b6_23l true
@[simp] theorem b6_23e : Rg b6_23 b6_23l true := rgE _ _
@[simp] def b6_24l : List EO := [o 11 (.alloc [.t (.int .i64 0), .snil, .snil, .snil]) []]
def b6_24 : EC := .rg b6_24l true
@[simp] theorem b6_24e : Rg b6_24 b6_24l true := rgE _ _
@[simp] def b6_25l : List EO := [u (.store 4) [t 11, t 56]]
def b6_25 : EC := .rg b6_25l true
@[simp] theorem b6_25e : Rg b6_25 b6_25l true := rgE _ _
@[simp] def b6_26l : List EO := [u (.store 4) [t 12, t 57]]
def b6_26 : EC := .rg b6_26l true
@[simp] theorem b6_26e : Rg b6_26 b6_26l true := rgE _ _
def b6_27 : EC := .sq b6_26 .skip
@[simp] theorem b6_27e : Sq b6_27 b6_26 .skip := sqE _ _
def b6_28 : EC := .sq b6_25 b6_27
@[simp] theorem b6_28e : Sq b6_28 b6_25 b6_27 := sqE _ _
def b6_29 : EC := .sq b6_24 b6_28
@[simp] theorem b6_29e : Sq b6_29 b6_24 b6_28 := sqE _ _
def b6_30 : EC := .sq b6_23 b6_29
@[simp] theorem b6_30e : Sq b6_30 b6_23 b6_29 := sqE _ _
def b6_31 : EC := .al b6_22 b6_30
@[simp] theorem b6_31e : Al b6_31 b6_22 b6_30 := alE _ _
def b6_32 : EC := .sq b6_14 b6_31
@[simp] theorem b6_32e : Sq b6_32 b6_14 b6_31 := sqE _ _
@[simp] def b6_33l : List EO := [o 11 (.alloc [.t (.int .i64 0), .snil, .snil, .snil]) []]
def b6_33 : EC := .rg b6_33l true
@[simp] theorem b6_33e : Rg b6_33 b6_33l true := rgE _ _
@[simp] def b6_34l : List EO := [o 57 (.load 4 true) [t 4]]
def b6_34 : EC := .rg b6_34l true
@[simp] theorem b6_34e : Rg b6_34 b6_34l true := rgE _ _
@[simp] def b6_35l : List EO := [o 12 (.alloc [.t (.int .i64 0), .snil, .snil, .snil]) []]
def b6_35 : EC := .rg b6_35l true
@[simp] theorem b6_35e : Rg b6_35 b6_35l true := rgE _ _
@[simp] def b6_36l : List EO := [u (.store 4) [t 11, t 56]]
def b6_36 : EC := .rg b6_36l true
@[simp] theorem b6_36e : Rg b6_36 b6_36l true := rgE _ _
@[simp] def b6_37l : List EO := [u (.store 4) [t 12, t 57]]
def b6_37 : EC := .rg b6_37l true
@[simp] theorem b6_37e : Rg b6_37 b6_37l true := rgE _ _
def b6_38 : EC := .sq b6_37 .skip
@[simp] theorem b6_38e : Sq b6_38 b6_37 .skip := sqE _ _
def b6_39 : EC := .sq b6_36 b6_38
@[simp] theorem b6_39e : Sq b6_39 b6_36 b6_38 := sqE _ _
def b6_40 : EC := .sq b6_35 b6_39
@[simp] theorem b6_40e : Sq b6_40 b6_35 b6_39 := sqE _ _
def b6_41 : EC := .sq b6_34 b6_40
@[simp] theorem b6_41e : Sq b6_41 b6_34 b6_40 := sqE _ _
@[simp] def b6_42l : List EO := [o 12 (.alloc [.t (.int .i64 0), .snil, .snil, .snil]) []]
def b6_42 : EC := .rg b6_42l true
@[simp] theorem b6_42e : Rg b6_42 b6_42l true := rgE _ _
@[simp] def b6_43l : List EO := [o 57 (.load 4 true) [t 4]]
def b6_43 : EC := .rg b6_43l true
@[simp] theorem b6_43e : Rg b6_43 b6_43l true := rgE _ _
@[simp] def b6_44l : List EO := [u (.store 4) [t 11, t 56]]
def b6_44 : EC := .rg b6_44l true
@[simp] theorem b6_44e : Rg b6_44 b6_44l true := rgE _ _
@[simp] def b6_45l : List EO := [u (.store 4) [t 12, t 57]]
def b6_45 : EC := .rg b6_45l true
@[simp] theorem b6_45e : Rg b6_45 b6_45l true := rgE _ _
def b6_46 : EC := .sq b6_45 .skip
@[simp] theorem b6_46e : Sq b6_46 b6_45 .skip := sqE _ _
def b6_47 : EC := .sq b6_44 b6_46
@[simp] theorem b6_47e : Sq b6_47 b6_44 b6_46 := sqE _ _
def b6_48 : EC := .sq b6_43 b6_47
@[simp] theorem b6_48e : Sq b6_48 b6_43 b6_47 := sqE _ _
@[simp] def b6_49l : List EO := [u (.store 4) [t 11, t 56]]
def b6_49 : EC := .rg b6_49l true
@[simp] theorem b6_49e : Rg b6_49 b6_49l true := rgE _ _
@[simp] def b6_50l : List EO := [o 57 (.load 4 true) [t 4]]
def b6_50 : EC := .rg b6_50l true
@[simp] theorem b6_50e : Rg b6_50 b6_50l true := rgE _ _
@[simp] def b6_51l : List EO := [u (.store 4) [t 12, t 57]]
def b6_51 : EC := .rg b6_51l true
@[simp] theorem b6_51e : Rg b6_51 b6_51l true := rgE _ _
def b6_52 : EC := .sq b6_51 .skip
@[simp] theorem b6_52e : Sq b6_52 b6_51 .skip := sqE _ _
def b6_53 : EC := .sq b6_50 b6_52
@[simp] theorem b6_53e : Sq b6_53 b6_50 b6_52 := sqE _ _
def b6_54 : EC := .sq b6_49 b6_53
@[simp] theorem b6_54e : Sq b6_54 b6_49 b6_53 := sqE _ _
def b6_55 : EC := .al b6_48 b6_54
@[simp] theorem b6_55e : Al b6_55 b6_48 b6_54 := alE _ _
def b6_56 : EC := .sq b6_42 b6_55
@[simp] theorem b6_56e : Sq b6_56 b6_42 b6_55 := sqE _ _
def b6_57 : EC := .al b6_41 b6_56
@[simp] theorem b6_57e : Al b6_57 b6_41 b6_56 := alE _ _
def b6_58 : EC := .sq b6_33 b6_57
@[simp] theorem b6_58e : Sq b6_58 b6_33 b6_57 := sqE _ _
@[simp] def b6_59l : List EO := [o 12 (.alloc [.t (.int .i64 0), .snil, .snil, .snil]) []]
def b6_59 : EC := .rg b6_59l true
@[simp] theorem b6_59e : Rg b6_59 b6_59l true := rgE _ _
@[simp] def b6_60l : List EO := [o 57 (.load 4 true) [t 4]]
def b6_60 : EC := .rg b6_60l true
@[simp] theorem b6_60e : Rg b6_60 b6_60l true := rgE _ _
@[simp] def b6_61l : List EO := [o 11 (.alloc [.t (.int .i64 0), .snil, .snil, .snil]) []]
def b6_61 : EC := .rg b6_61l true
@[simp] theorem b6_61e : Rg b6_61 b6_61l true := rgE _ _
@[simp] def b6_62l : List EO := [u (.store 4) [t 11, t 56]]
def b6_62 : EC := .rg b6_62l true
@[simp] theorem b6_62e : Rg b6_62 b6_62l true := rgE _ _
@[simp] def b6_63l : List EO := [u (.store 4) [t 12, t 57]]
def b6_63 : EC := .rg b6_63l true
@[simp] theorem b6_63e : Rg b6_63 b6_63l true := rgE _ _
def b6_64 : EC := .sq b6_63 .skip
@[simp] theorem b6_64e : Sq b6_64 b6_63 .skip := sqE _ _
def b6_65 : EC := .sq b6_62 b6_64
@[simp] theorem b6_65e : Sq b6_65 b6_62 b6_64 := sqE _ _
def b6_66 : EC := .sq b6_61 b6_65
@[simp] theorem b6_66e : Sq b6_66 b6_61 b6_65 := sqE _ _
def b6_67 : EC := .sq b6_60 b6_66
@[simp] theorem b6_67e : Sq b6_67 b6_60 b6_66 := sqE _ _
@[simp] def b6_68l : List EO := [o 11 (.alloc [.t (.int .i64 0), .snil, .snil, .snil]) []]
def b6_68 : EC := .rg b6_68l true
@[simp] theorem b6_68e : Rg b6_68 b6_68l true := rgE _ _
@[simp] def b6_69l : List EO := [o 57 (.load 4 true) [t 4]]
def b6_69 : EC := .rg b6_69l true
@[simp] theorem b6_69e : Rg b6_69 b6_69l true := rgE _ _
@[simp] def b6_70l : List EO := [u (.store 4) [t 11, t 56]]
def b6_70 : EC := .rg b6_70l true
@[simp] theorem b6_70e : Rg b6_70 b6_70l true := rgE _ _
@[simp] def b6_71l : List EO := [u (.store 4) [t 12, t 57]]
def b6_71 : EC := .rg b6_71l true
@[simp] theorem b6_71e : Rg b6_71 b6_71l true := rgE _ _
def b6_72 : EC := .sq b6_71 .skip
@[simp] theorem b6_72e : Sq b6_72 b6_71 .skip := sqE _ _
def b6_73 : EC := .sq b6_70 b6_72
@[simp] theorem b6_73e : Sq b6_73 b6_70 b6_72 := sqE _ _
def b6_74 : EC := .sq b6_69 b6_73
@[simp] theorem b6_74e : Sq b6_74 b6_69 b6_73 := sqE _ _
@[simp] def b6_75l : List EO := [u (.store 4) [t 11, t 56]]
def b6_75 : EC := .rg b6_75l true
@[simp] theorem b6_75e : Rg b6_75 b6_75l true := rgE _ _
@[simp] def b6_76l : List EO := [o 57 (.load 4 true) [t 4]]
def b6_76 : EC := .rg b6_76l true
@[simp] theorem b6_76e : Rg b6_76 b6_76l true := rgE _ _
@[simp] def b6_77l : List EO := [u (.store 4) [t 12, t 57]]
def b6_77 : EC := .rg b6_77l true
@[simp] theorem b6_77e : Rg b6_77 b6_77l true := rgE _ _
def b6_78 : EC := .sq b6_77 .skip
@[simp] theorem b6_78e : Sq b6_78 b6_77 .skip := sqE _ _
def b6_79 : EC := .sq b6_76 b6_78
@[simp] theorem b6_79e : Sq b6_79 b6_76 b6_78 := sqE _ _
def b6_80 : EC := .sq b6_75 b6_79
@[simp] theorem b6_80e : Sq b6_80 b6_75 b6_79 := sqE _ _
def b6_81 : EC := .al b6_74 b6_80
@[simp] theorem b6_81e : Al b6_81 b6_74 b6_80 := alE _ _
def b6_82 : EC := .sq b6_68 b6_81
@[simp] theorem b6_82e : Sq b6_82 b6_68 b6_81 := sqE _ _
def b6_83 : EC := .al b6_67 b6_82
@[simp] theorem b6_83e : Al b6_83 b6_67 b6_82 := alE _ _
def b6_84 : EC := .sq b6_59 b6_83
@[simp] theorem b6_84e : Sq b6_84 b6_59 b6_83 := sqE _ _
def b6_85 : EC := .al b6_58 b6_84
@[simp] theorem b6_85e : Al b6_85 b6_58 b6_84 := alE _ _
def b6_86 : EC := .al b6_32 b6_85
@[simp] theorem b6_86e : Al b6_86 b6_32 b6_85 := alE _ _
def b6_87 : EC := .sq b6_13 b6_86
@[simp] theorem b6_87e : Sq b6_87 b6_13 b6_86 := sqE _ _
@[simp] def b6_88l : List EO := [o 58 (.faddr 1) [t 11],
 u (.store 1) [t 58, c (.snil)],
 o 59 (.faddr 1) [t 12],
 u (.store 1) [t 59, c (.snil)]]
def b6_88 : EC := .rg b6_88l false
@[simp] theorem b6_88e : Rg b6_88 b6_88l false := rgE _ _
@[simp] def b6_89l : List EO := [o 60 (.faddr 1) [t 4],
 o 61 (.load 1 false) [t 60],
 o 62 .lenL [t 61],
 o 63 .mv [i 0]]
def b6_89 : EC := .rg b6_89l false
@[simp] theorem b6_89e : Rg b6_89 b6_89l false := rgE _ _
@[simp] def b6_90l : List EO := [o 64 (.bin .lss) [t 63, t 62]]
def b6_90 : EC := .rg b6_90l false
@[simp] theorem b6_90e : Rg b6_90 b6_90l false := rgE _ _
def b6_91 : EC := .cd (t 64) .skip (.ex 0)
@[simp] theorem b6_91e : Cd b6_91 (t 64) .skip (.ex 0) := cdE _ _ _
@[simp] def b6_92l : List EO := [o 65 (.iaS 7) [t 61, t 63],
 o 66 (.load 7 true) [t 65],
 o 14 (.alloc [.t (.int .i64 0), .t (.int .i64 0), .t (.int .i64 0), .t (.int .i64 0), .t (.int .i64 0), .t (.int .i64 0), .t (.int .i64 0)]) [],
 u (.store 7) [t 14, t 66]]
def b6_92 : EC := .rg b6_92l false
@[simp] theorem b6_92e : Rg b6_92 b6_92l false := rgE _ _
@[simp] def b6_93l : List EO := [o 67 (.faddr 5) [t 14],
 o 68 (.load 1 false) [t 67],
 m 69 7,
 o 70 (.bin .lss) [t 68, t 69]]
def b6_93 : EC := .rg b6_93l false
@[simp] theorem b6_93e : Rg b6_93 b6_93l false := rgE _ _
@[simp] def b6_94l : List EO := [o 71 (.faddr 1) [t 11],
 o 72 (.load 1 false) [t 71],
 o 73 (.load 7 true) [t 14],
 o 74 (.bsl 7) [t 73],
 o 75 (.appB 62 7 56) [t 72, t 74],
 o 76 (.faddr 1) [t 11],
 u (.store 1) [t 76, t 75]]
def b6_94 : EC := .rg b6_94l false
@[simp] theorem b6_94e : Rg b6_94 b6_94l false := rgE _ _
def b6_95 : EC := .cd (t 70) b6_94 .skip
@[simp] theorem b6_95e : Cd b6_95 (t 70) b6_94 .skip := cdE _ _ _
def b6_96 : EC := .sq b6_93 b6_95
@[simp] theorem b6_96e : Sq b6_96 b6_93 b6_95 := sqE _ _
@[simp] def b6_97l : List EO := [o 77 (.faddr 5) [t 14],
 o 78 (.load 1 false) [t 77],
 m 79 9,
 o 80 (.bin .leq) [t 78, t 79]]
def b6_97 : EC := .rg b6_97l false
@[simp] theorem b6_97e : Rg b6_97 b6_97l false := rgE _ _
@[simp] def b6_98l : List EO := [o 81 (.faddr 1) [t 12],
 o 82 (.load 1 false) [t 81],
 o 83 (.load 7 true) [t 14],
 o 84 (.bsl 7) [t 83],
 o 85 (.appB 62 7 56) [t 82, t 84],
 o 86 (.faddr 1) [t 12],
 u (.store 1) [t 86, t 85]]
def b6_98 : EC := .rg b6_98l false
@[simp] theorem b6_98e : Rg b6_98 b6_98l false := rgE _ _
def b6_99 : EC := .cd (t 80) b6_98 .skip
@[simp] theorem b6_99e : Cd b6_99 (t 80) b6_98 .skip := cdE _ _ _
def b6_100 : EC := .sq b6_97 b6_99
@[simp] theorem b6_100e : Sq b6_100 b6_97 b6_99 := sqE _ _
def b6_101 : EC := .sq b6_96 b6_100
@[simp] theorem b6_101e : Sq b6_101 b6_96 b6_100 := sqE _ _
def b6_102 : EC := .sq b6_92 b6_101
@[simp] theorem b6_102e : Sq b6_102 b6_92 b6_101 := sqE _ _
def b6_103 : EC := .bk 1 b6_102
@[simp] theorem b6_103e : Bk b6_103 1 b6_102 := bkE _ _
@[simp] def b6_104l : List EO := [o 87 (.bin .add) [t 63, i 1],
 m 63 87]
def b6_104 : EC := .rg b6_104l false
@[simp] theorem b6_104e : Rg b6_104 b6_104l false := rgE _ _
def b6_105 : EC := .sq b6_103 b6_104
@[simp] theorem b6_105e : Sq b6_105 b6_103 b6_104 := sqE _ _
def b6_106 : EC := .sq b6_91 b6_105
@[simp] theorem b6_106e : Sq b6_106 b6_91 b6_105 := sqE _ _
def b6_107 : EC := .sq b6_90 b6_106
@[simp] theorem b6_107e : Sq b6_107 b6_90 b6_106 := sqE _ _
def b6_108 : EC := .bk 0 (.lp b6_107)
@[simp] theorem b6_108e : Bk b6_108 0 (.lp b6_107) := bkE _ _
def b6_109 : EC := .sq b6_89 b6_108
@[simp] theorem b6_109e : Sq b6_109 b6_89 b6_108 := sqE _ _
@[simp] def b6_110l : List EO := [o 89 (.load 21 true) [t 3],
 o 90 (.load 4 true) [t 11],
 o 91 (.load 4 true) [t 12],
 m 92 2,
 o 93 (.call 14) [t 89, t 90, t 91, t 92],
 m 88 93,
 o 94 (.ext 0) [t 88],
 o 95 (.ext 1) [t 88],
 o 15 (.alloc [.t (.int .i64 0), .t (.int .i64 0), .t (.int .i64 0), .t (.int .i64 0), .t (.int .i64 0), .t (.int .i64 0), .t (.int .i64 0), .t (.int .i64 0), .t (.int .i64 0), .t (.int .i64 0), .t (.int .i64 0), .t (.int .i64 0), .t (.int .i64 0), .t (.int .i64 0), .t (.int .i64 0), .t (.int .i64 0)]) [],
 u (.store 16) [t 15, t 94],
 m 16 95]
def b6_110 : EC := .rg b6_110l false
@[simp] theorem b6_110e : Rg b6_110 b6_110l false := rgE _ _
@[simp] def b6_111l : List EO := [o 97 (.load 21 true) [t 3],
 o 98 (.load 4 true) [t 4],
 o 99 (.load 4 true) [t 4],
 m 100 2,
 o 101 (.call 14) [t 97, t 98, t 99, t 100],
 m 96 101,
 o 102 (.ext 0) [t 96],
 o 103 (.ext 1) [t 96],
 o 17 (.alloc [.t (.int .i64 0), .t (.int .i64 0), .t (.int .i64 0), .t (.int .i64 0), .t (.int .i64 0), .t (.int .i64 0), .t (.int .i64 0), .t (.int .i64 0), .t (.int .i64 0), .t (.int .i64 0), .t (.int .i64 0), .t (.int .i64 0), .t (.int .i64 0), .t (.int .i64 0), .t (.int .i64 0), .t (.int .i64 0)]) [],
 u (.store 16) [t 17, t 102],
 m 18 103]
def b6_111 : EC := .rg b6_111l false
@[simp] theorem b6_111e : Rg b6_111 b6_111l false := rgE _ _
@[simp] def b6_112l : List EO := [m 104 16,
 o 105 (.bin .eql) [t 104, i 0],
 m 106 105,
 y 107 106 (.faddr 3) [t 15],
 y 108 106 (.load 1 false) [t 107],
 y 109 106 (.bin .neq) [t 108, i 0],
 y 110 106 .mv [t 109],
 n 111 110 (.load 16 true) [t 15],
 n 112 110 (.call 16) [t 111],
 n 113 110 (.bin .neq) [t 112, i 0],
 y 114 106 .pick [t 110, b true, t 113],
 o 115 .pick [t 106, t 114, b false]]
def b6_112 : EC := .rg b6_112l false
@[simp] theorem b6_112e : Rg b6_112 b6_112l false := rgE _ _
@[simp] def b6_113l : List EO := [o 6 .mv [b false]]
def b6_113 : EC := .rg b6_113l false
@[simp] theorem b6_113e : Rg b6_113 b6_113l false := rgE _ _
def b6_114 : EC := .sq b6_113 .rt
@[simp] theorem b6_114e : Sq b6_114 b6_113 .rt := sqE _ _
def b6_115 : EC := .cd (t 115) b6_114 .skip
@[simp] theorem b6_115e : Cd b6_115 (t 115) b6_114 .skip := cdE _ _ _
def b6_116 : EC := .sq b6_112 b6_115
@[simp] theorem b6_116e : Sq b6_116 b6_112 b6_115 := sqE _ _
@[simp] def b6_117l : List EO := [m 116 18,
 o 117 (.bin .neq) [t 116, i 0],
 m 118 117,
 n 119 118 (.faddr 2) [t 17],
 n 120 118 (.load 1 false) [t 119],
 n 121 118 (.faddr 3) [t 17],
 n 122 118 (.load 1 false) [t 121],
 n 123 118 (.un .neg) [t 122],
 n 124 118 (.bin .eql) [t 120, t 123],
 n 125 118 .mv [t 124],
 y 126 125 (.faddr 5) [t 17],
 y 127 125 (.load 11 true) [t 126],
 y 128 125 (.build [.t (.int .i64 0), .t (.int .i64 0), .t (.int .i64 0), .t (.int .i64 0), .t (.int .i64 0), .t (.int .i64 0), .t (.int .i64 0), .t (.int .i64 0), .t (.int .i64 0), .t (.int .i64 0), .t (.int .i64 0)] []) [],
 y 129 125 (.eqv false true [1, 1, 1, 1, 1, 1, 1, 1, 1, 1, 1]) [t 127, t 128],
 n 130 118 .pick [t 125, t 129, b false],
 n 131 118 .mv [t 130],
 y 132 131 (.faddr 1) [t 17],
 y 133 131 (.load 1 false) [t 132],
 y 134 131 (.faddr 4) [t 17],
 y 135 131 (.load 1 false) [t 134],
 y 136 131 (.bin .eql) [t 133, t 135],
 n 137 118 .pick [t 131, t 136, b false],
 o 138 .pick [t 118, b true, t 137],
 m 6 138]
def b6_117 : EC := .rg b6_117l false
@[simp] theorem b6_117e : Rg b6_117 b6_117l false := rgE _ _
def b6_118 : EC := .sq b6_117 .rt
@[simp] theorem b6_118e : Sq b6_118 b6_117 .rt := sqE _ _
def b6_119 : EC := .sq b6_116 b6_118
@[simp] theorem b6_119e : Sq b6_119 b6_116 b6_118 := sqE _ _
def b6_120 : EC := .sq b6_111 b6_119
@[simp] theorem b6_120e : Sq b6_120 b6_111 b6_119 := sqE _ _
def b6_121 : EC := .sq b6_110 b6_120
@[simp] theorem b6_121e : Sq b6_121 b6_110 b6_120 := sqE _ _
def b6_122 : EC := .sq b6_109 b6_121
@[simp] theorem b6_122e : Sq b6_122 b6_109 b6_121 := sqE _ _
def b6_123 : EC := .sq b6_88 b6_122
@[simp] theorem b6_123e : Sq b6_123 b6_88 b6_122 := sqE _ _
def b6_124 : EC := .sq b6_87 b6_123
@[simp] theorem b6_124e : Sq b6_124 b6_87 b6_123 := sqE _ _
def b6_125 : EC := .sq b6_12 b6_124
@[simp] theorem b6_125e : Sq b6_125 b6_12 b6_124 := sqE _ _
def b6_126 : EC := .sq b6_7 b6_125
@[simp] theorem b6_126e : Sq b6_126 b6_7 b6_125 := sqE _ _
def b6_127 : EC := .sq b6_6 b6_126
@[simp] theorem b6_127e : Sq b6_127 b6_6 b6_126 := sqE _ _
def b6_128 : EC := .sq b6_5 b6_127
@[simp] theorem b6_128e : Sq b6_128 b6_5 b6_127 := sqE _ _
def b6_129 : EC := .sq b6_0 b6_128
@[simp] theorem b6_129e : Sq b6_129 b6_0 b6_128 := sqE _ _
def b_tallystonelaw52_NoteSame_6 : EC := b6_129
theorem kb_6 : ecB Try.prog 6 = some (139, b_tallystonelaw52_NoteSame_6, [.tm 6]) := by kernel_rfl

/-- tallystone/tallystonelaw52.NoteAll -/
@[simp] def c7_0l : List EO := [o 2 .box [t 0],
 o 3 .box [t 1],
 o 4 .mv [b false]]
def c7_0 : EC := .rg c7_0l false
@[simp] theorem c7_0e : Rg c7_0 c7_0l false := rgE _ _
@[simp] def c7_1l : List EO := [o 9 (.call 12) [],
 o 10 (.un .not) [t 9],
 m 11 10,
 n 12 11 (.load 21 true) [t 2],
 n 13 11 (.faddr 0) [t 3],
 n 14 11 (.load 4 true) [t 13],
 n 15 11 (.faddr 4) [t 3],
 n 16 11 (.load 4 true) [t 15],
 n 17 11 (.call 13) [t 12, t 14, t 16],
 n 18 11 (.un .not) [t 17],
 o 19 .pick [t 11, b true, t 18]]
def c7_1 : EC := .rg c7_1l false
@[simp] theorem c7_1e : Rg c7_1 c7_1l false := rgE _ _
@[simp] def c7_2l : List EO := [o 20 (.call 12) [],
 m 4 20]
def c7_2 : EC := .rg c7_2l false
@[simp] theorem c7_2e : Rg c7_2 c7_2l false := rgE _ _
def c7_3 : EC := .sq c7_2 .rt
@[simp] theorem c7_3e : Sq c7_3 c7_2 .rt := sqE _ _
def c7_4 : EC := .cd (t 19) c7_3 .skip
@[simp] theorem c7_4e : Cd c7_4 (t 19) c7_3 .skip := cdE _ _ _
def c7_5 : EC := .sq c7_1 c7_4
@[simp] theorem c7_5e : Sq c7_5 c7_1 c7_4 := sqE _ _
@[simp] def c7_6l : List EO := [o 22 (.load 21 true) [t 2],
 o 23 (.faddr 0) [t 3],
 o 24 (.load 4 true) [t 23],
 o 25 (.faddr 4) [t 3],
 o 26 (.load 4 true) [t 25],
 o 27 (.call 21) [t 22, t 24, t 26],
 m 21 27,
 o 28 (.ext 0) [t 21],
 o 29 (.ext 1) [t 21],
 m 5 28,
 m 6 29]
def c7_6 : EC := .rg c7_6l false
@[simp] theorem c7_6e : Rg c7_6 c7_6l false := rgE _ _
@[simp] def c7_7l : List EO := [o 31 (.load 21 true) [t 2],
 o 32 (.faddr 0) [t 3],
 o 33 (.load 4 true) [t 32],
 o 34 (.faddr 4) [t 3],
 o 35 (.load 4 true) [t 34],
 o 36 (.call 22) [t 31, t 33, t 35],
 m 30 36,
 o 37 (.ext 0) [t 30],
 o 38 (.ext 1) [t 30],
 m 7 37,
 m 8 38]
def c7_7 : EC := .rg c7_7l false
@[simp] theorem c7_7e : Rg c7_7 c7_7l false := rgE _ _
@[simp] def c7_8l : List EO := [m 39 6,
 m 40 8,
 o 41 (.bin .eql) [t 39, t 40],
 m 42 41,
 y 43 42 .mv [t 5],
 y 44 42 (.call 24) [t 43],
 y 45 42 .mv [t 7],
 y 46 42 (.call 23) [t 44, t 45],
 o 47 .pick [t 42, t 46, b false],
 m 4 47]
def c7_8 : EC := .rg c7_8l false
@[simp] theorem c7_8e : Rg c7_8 c7_8l false := rgE _ _
def c7_9 : EC := .sq c7_8 .rt
@[simp] theorem c7_9e : Sq c7_9 c7_8 .rt := sqE _ _
def c7_10 : EC := .sq c7_7 c7_9
@[simp] theorem c7_10e : Sq c7_10 c7_7 c7_9 := sqE _ _
def c7_11 : EC := .sq c7_6 c7_10
@[simp] theorem c7_11e : Sq c7_11 c7_6 c7_10 := sqE _ _
def c7_12 : EC := .sq c7_5 c7_11
@[simp] theorem c7_12e : Sq c7_12 c7_5 c7_11 := sqE _ _
def c7_13 : EC := .sq c7_0 c7_12
@[simp] theorem c7_13e : Sq c7_13 c7_0 c7_12 := sqE _ _
def c_tallystonelaw52_NoteAll_7 : EC := c7_13
theorem k_7 : ecF Try.prog 7 = some (48, c_tallystonelaw52_NoteAll_7, [.tm 4]) := by kernel_rfl

/-- tallystone/tallystonelaw52.NoteBalance -/
@[simp] def c8_0l : List EO := [o 2 .box [t 0],
 o 3 .box [t 1],
 o 4 .mv [b false]]
def c8_0 : EC := .rg c8_0l false
@[simp] theorem c8_0e : Rg c8_0 c8_0l false := rgE _ _
@[simp] def c8_1l : List EO := [o 18 (.call 12) [],
 o 19 (.un .not) [t 18],
 m 20 19,
 n 21 20 (.load 21 true) [t 2],
 n 22 20 (.faddr 0) [t 3],
 n 23 20 (.load 4 true) [t 22],
 n 24 20 (.faddr 4) [t 3],
 n 25 20 (.load 4 true) [t 24],
 n 26 20 (.call 13) [t 21, t 23, t 25],
 n 27 20 (.un .not) [t 26],
 o 28 .pick [t 20, b true, t 27],
 m 29 28,
 n 30 29 (.load 21 true) [t 2],
 n 31 29 (.call 18) [t 30],
 n 32 29 (.un .not) [t 31],
 o 33 .pick [t 29, b true, t 32]]
def c8_1 : EC := .rg c8_1l false
@[simp] theorem c8_1e : Rg c8_1 c8_1l false := rgE _ _
@[simp] def c8_2l : List EO := [o 34 (.call 12) [],
 m 4 34]
def c8_2 : EC := .rg c8_2l false
@[simp] theorem c8_2e : Rg c8_2 c8_2l false := rgE _ _
def c8_3 : EC := .sq c8_2 .rt
@[simp] theorem c8_3e : Sq c8_3 c8_2 .rt := sqE _ _
def c8_4 : EC := .cd (t 33) c8_3 .skip
@[simp] theorem c8_4e : Cd c8_4 (t 33) c8_3 .skip := cdE _ _ _
def c8_5 : EC := .sq c8_1 c8_4
@[simp] theorem c8_5e : Sq c8_5 c8_1 c8_4 := sqE _ _
@[simp] def c8_6l : List EO := [o 35 (.faddr 0) [t 3],
 o 36 (.load 4 true) [t 35],
 o 37 (.faddr 4) [t 3],
 o 38 (.load 4 true) [t 37],
 o 39 (.bsl 4) [t 36, t 38],
 o 40 .lenL [t 39],
 o 41 .mv [i 0]]
def c8_6 : EC := .rg c8_6l false
@[simp] theorem c8_6e : Rg c8_6 c8_6l false := rgE _ _
@[simp] def c8_7l : List EO := [o 42 (.bin .lss) [t 41, t 40]]
def c8_7 : EC := .rg c8_7l false
@[simp] theorem c8_7e : Rg c8_7 c8_7l false := rgE _ _
def c8_8 : EC := .cd (t 42) .skip (.ex 0)
@[simp] theorem c8_8e : Cd c8_8 (t 42) .skip (.ex 0) := cdE _ _ _
@[simp] def c8_9l : List EO := [o 43 (.iaS 4) [t 39, t 41],
 o 44 (.load 4 true) [t 43],
 o 6 (.alloc [.t (.int .i64 0), .snil, .snil, .snil]) [],
 u (.store 4) [t 6, t 44]]
def c8_9 : EC := .rg c8_9l false
@[simp] theorem c8_9e : Rg c8_9 c8_9l false := rgE _ _
@[simp] def c8_10l : List EO := [o 7 .mv [i 0]]
def c8_10 : EC := .rg c8_10l false
@[simp] theorem c8_10e : Rg c8_10 c8_10l false := rgE _ _
@[simp] def c8_11l : List EO := [o 45 (.faddr 1) [t 6],
 o 46 (.load 1 false) [t 45],
 o 47 (.faddr 2) [t 6],
 o 48 (.load 1 false) [t 47],
 o 49 (.call 25) [t 46, t 48],
 o 50 .lenL [t 49],
 o 51 .mv [i 0]]
def c8_11 : EC := .rg c8_11l false
@[simp] theorem c8_11e : Rg c8_11 c8_11l false := rgE _ _
@[simp] def c8_12l : List EO := [o 52 (.bin .lss) [t 51, t 50]]
def c8_12 : EC := .rg c8_12l false
@[simp] theorem c8_12e : Rg c8_12 c8_12l false := rgE _ _
def c8_13 : EC := .cd (t 52) .skip (.ex 2)
@[simp] theorem c8_13e : Cd c8_13 (t 52) .skip (.ex 2) := cdE _ _ _
@[simp] def c8_14l : List EO := [o 53 (.iaS 2) [t 49, t 51],
 o 54 (.load 2 true) [t 53],
 o 9 (.alloc [.t (.int .i64 0), .t (.int .i64 0)]) [],
 u (.store 2) [t 9, t 54]]
def c8_14 : EC := .rg c8_14l false
@[simp] theorem c8_14e : Rg c8_14 c8_14l false := rgE _ _
@[simp] def c8_15l : List EO := [o 56 (.load 21 true) [t 2],
 o 57 (.faddr 0) [t 9],
 o 58 (.load 1 false) [t 57],
 o 59 (.call 26) [t 56, t 58],
 m 55 59,
 o 60 (.ext 0) [t 55],
 o 61 (.ext 1) [t 55],
 o 10 (.alloc [.t (.int .i64 0), .t (.int .i64 0), .t (.int .i64 0), .t (.int .i64 0)]) [],
 u (.store 4) [t 10, t 60],
 m 11 61]
def c8_15 : EC := .rg c8_15l false
@[simp] theorem c8_15e : Rg c8_15 c8_15l false := rgE _ _
@[simp] def c8_16l : List EO := [m 62 11,
 o 63 (.un .not) [t 62]]
def c8_16 : EC := .rg c8_16l false
@[simp] theorem c8_16e : Rg c8_16 c8_16l false := rgE _ _
@[simp] def c8_17l : List EO := [o 4 .mv [b true]]
def c8_17 : EC := .rg c8_17l false
@[simp] theorem c8_17e : Rg c8_17 c8_17l false := rgE _ _
def c8_18 : EC := .sq c8_17 .rt
@[simp] theorem c8_18e : Sq c8_18 c8_17 .rt := sqE _ _
def c8_19 : EC := .cd (t 63) c8_18 .skip
@[simp] theorem c8_19e : Cd c8_19 (t 63) c8_18 .skip := cdE _ _ _
def c8_20 : EC := .sq c8_16 c8_19
@[simp] theorem c8_20e : Sq c8_20 c8_16 c8_19 := sqE _ _
def c8_21 : EC := .sq c8_15 c8_20
@[simp] theorem c8_21e : Sq c8_21 c8_15 c8_20 := sqE _ _
@[simp] def c8_22l : List EO := [m 64 7,
 o 65 (.faddr 1) [t 9],
 o 66 (.load 1 false) [t 65],
 o 67 (.bin .add) [t 64, t 66],
 m 7 67]
def c8_22 : EC := .rg c8_22l false
@[simp] theorem c8_22e : Rg c8_22 c8_22l false := rgE _ _
def c8_23 : EC := .sq c8_21 c8_22
@[simp] theorem c8_23e : Sq c8_23 c8_21 c8_22 := sqE _ _
def c8_24 : EC := .sq c8_14 c8_23
@[simp] theorem c8_24e : Sq c8_24 c8_14 c8_23 := sqE _ _
def c8_25 : EC := .bk 3 c8_24
@[simp] theorem c8_25e : Bk c8_25 3 c8_24 := bkE _ _
@[simp] def c8_26l : List EO := [o 68 (.bin .add) [t 51, i 1],
 m 51 68]
def c8_26 : EC := .rg c8_26l false
@[simp] theorem c8_26e : Rg c8_26 c8_26l false := rgE _ _
def c8_27 : EC := .sq c8_25 c8_26
@[simp] theorem c8_27e : Sq c8_27 c8_25 c8_26 := sqE _ _
def c8_28 : EC := .sq c8_13 c8_27
@[simp] theorem c8_28e : Sq c8_28 c8_13 c8_27 := sqE _ _
def c8_29 : EC := .sq c8_12 c8_28
@[simp] theorem c8_29e : Sq c8_29 c8_12 c8_28 := sqE _ _
def c8_30 : EC := .bk 2 (.lp c8_29)
@[simp] theorem c8_30e : Bk c8_30 2 (.lp c8_29) := bkE _ _
def c8_31 : EC := .sq c8_11 c8_30
@[simp] theorem c8_31e : Sq c8_31 c8_11 c8_30 := sqE _ _
@[simp] def c8_32l : List EO := [m 69 7,
 o 70 (.bin .neq) [t 69, i 0]]
def c8_32 : EC := .rg c8_32l false
@[simp] theorem c8_32e : Rg c8_32 c8_32l false := rgE _ _
@[simp] def c8_33l : List EO := [o 4 .mv [b true]]
def c8_33 : EC := .rg c8_33l false
@[simp] theorem c8_33e : Rg c8_33 c8_33l false := rgE _ _
def c8_34 : EC := .sq c8_33 .rt
@[simp] theorem c8_34e : Sq c8_34 c8_33 .rt := sqE _ _
def c8_35 : EC := .cd (t 70) c8_34 .skip
@[simp] theorem c8_35e : Cd c8_35 (t 70) c8_34 .skip := cdE _ _ _
def c8_36 : EC := .sq c8_32 c8_35
@[simp] theorem c8_36e : Sq c8_36 c8_32 c8_35 := sqE _ _
def c8_37 : EC := .sq c8_31 c8_36
@[simp] theorem c8_37e : Sq c8_37 c8_31 c8_36 := sqE _ _
def c8_38 : EC := .sq c8_10 c8_37
@[simp] theorem c8_38e : Sq c8_38 c8_10 c8_37 := sqE _ _
def c8_39 : EC := .sq c8_9 c8_38
@[simp] theorem c8_39e : Sq c8_39 c8_9 c8_38 := sqE _ _
def c8_40 : EC := .bk 1 c8_39
@[simp] theorem c8_40e : Bk c8_40 1 c8_39 := bkE _ _
@[simp] def c8_41l : List EO := [o 71 (.bin .add) [t 41, i 1],
 m 41 71]
def c8_41 : EC := .rg c8_41l false
@[simp] theorem c8_41e : Rg c8_41 c8_41l false := rgE _ _
def c8_42 : EC := .sq c8_40 c8_41
@[simp] theorem c8_42e : Sq c8_42 c8_40 c8_41 := sqE _ _
def c8_43 : EC := .sq c8_8 c8_42
@[simp] theorem c8_43e : Sq c8_43 c8_8 c8_42 := sqE _ _
def c8_44 : EC := .sq c8_7 c8_43
@[simp] theorem c8_44e : Sq c8_44 c8_7 c8_43 := sqE _ _
def c8_45 : EC := .bk 0 (.lp c8_44)
@[simp] theorem c8_45e : Bk c8_45 0 (.lp c8_44) := bkE _ _
def c8_46 : EC := .sq c8_6 c8_45
@[simp] theorem c8_46e : Sq c8_46 c8_6 c8_45 := sqE _ _
@[simp] def c8_47l : List EO := [o 73 (.load 21 true) [t 2],
 o 74 (.faddr 0) [t 3],
 o 75 (.load 4 true) [t 74],
 o 76 (.faddr 4) [t 3],
 o 77 (.load 4 true) [t 76],
 o 78 (.call 21) [t 73, t 75, t 77],
 m 72 78,
 o 79 (.ext 0) [t 72],
 o 80 (.ext 1) [t 72],
 m 12 79,
 m 13 80]
def c8_47 : EC := .rg c8_47l false
@[simp] theorem c8_47e : Rg c8_47 c8_47l false := rgE _ _
@[simp] def c8_48l : List EO := [o 14 .mv [i 0],
 o 15 .mv [i 0]]
def c8_48 : EC := .rg c8_48l false
@[simp] theorem c8_48e : Rg c8_48 c8_48l false := rgE _ _
@[simp] def c8_49l : List EO := [m 81 12,
 o 82 .lenL [t 81],
 o 83 .mv [i 0]]
def c8_49 : EC := .rg c8_49l false
@[simp] theorem c8_49e : Rg c8_49 c8_49l false := rgE _ _
@[simp] def c8_50l : List EO := [o 84 (.bin .lss) [t 83, t 82]]
def c8_50 : EC := .rg c8_50l false
@[simp] theorem c8_50e : Rg c8_50 c8_50l false := rgE _ _
def c8_51 : EC := .cd (t 84) .skip (.ex 4)
@[simp] theorem c8_51e : Cd c8_51 (t 84) .skip (.ex 4) := cdE _ _ _
@[simp] def c8_52l : List EO := [o 85 (.iaS 16) [t 81, t 83],
 o 86 (.load 16 true) [t 85],
 o 17 (.alloc [.t (.int .i64 0), .t (.int .i64 0), .t (.int .i64 0), .t (.int .i64 0), .t (.int .i64 0), .t (.int .i64 0), .t (.int .i64 0), .t (.int .i64 0), .t (.int .i64 0), .t (.int .i64 0), .t (.int .i64 0), .t (.int .i64 0), .t (.int .i64 0), .t (.int .i64 0), .t (.int .i64 0), .t (.int .i64 0)]) [],
 u (.store 16) [t 17, t 86]]
def c8_52 : EC := .rg c8_52l false
@[simp] theorem c8_52e : Rg c8_52 c8_52l false := rgE _ _
@[simp] def c8_53l : List EO := [m 87 14,
 o 88 (.faddr 1) [t 17],
 o 89 (.load 1 false) [t 88],
 o 90 (.bin .add) [t 87, t 89],
 m 91 15,
 o 92 (.faddr 4) [t 17],
 o 93 (.load 1 false) [t 92],
 o 94 (.bin .add) [t 91, t 93],
 m 14 90,
 m 15 94]
def c8_53 : EC := .rg c8_53l true
@[simp] theorem c8_53e : Rg c8_53 c8_53l true := rgE _ _
def c8_54 : EC := .sq c8_52 c8_53
@[simp] theorem c8_54e : Sq c8_54 c8_52 c8_53 := sqE _ _
def c8_55 : EC := .bk 5 c8_54
@[simp] theorem c8_55e : Bk c8_55 5 c8_54 := bkE _ _
@[simp] def c8_56l : List EO := [o 95 (.bin .add) [t 83, i 1],
 m 83 95]
def c8_56 : EC := .rg c8_56l false
@[simp] theorem c8_56e : Rg c8_56 c8_56l false := rgE _ _
def c8_57 : EC := .sq c8_55 c8_56
@[simp] theorem c8_57e : Sq c8_57 c8_55 c8_56 := sqE _ _
def c8_58 : EC := .sq c8_51 c8_57
@[simp] theorem c8_58e : Sq c8_58 c8_51 c8_57 := sqE _ _
def c8_59 : EC := .sq c8_50 c8_58
@[simp] theorem c8_59e : Sq c8_59 c8_50 c8_58 := sqE _ _
def c8_60 : EC := .bk 4 (.lp c8_59)
@[simp] theorem c8_60e : Bk c8_60 4 (.lp c8_59) := bkE _ _
def c8_61 : EC := .sq c8_49 c8_60
@[simp] theorem c8_61e : Sq c8_61 c8_49 c8_60 := sqE _ _
@[simp] def c8_62l : List EO := [m 96 13,
 o 97 (.bin .neq) [t 96, i 0],
 m 98 97,
 n 99 98 .mv [t 14],
 n 100 98 (.bin .eql) [t 99, i 0],
 n 101 98 .mv [t 100],
 y 102 101 .mv [t 15],
 y 103 101 (.bin .eql) [t 102, i 0],
 n 104 98 .pick [t 101, t 103, b false],
 o 105 .pick [t 98, b true, t 104],
 m 4 105]
def c8_62 : EC := .rg c8_62l false
@[simp] theorem c8_62e : Rg c8_62 c8_62l false := rgE _ _
def c8_63 : EC := .sq c8_62 .rt
@[simp] theorem c8_63e : Sq c8_63 c8_62 .rt := sqE _ _
def c8_64 : EC := .sq c8_61 c8_63
@[simp] theorem c8_64e : Sq c8_64 c8_61 c8_63 := sqE _ _
def c8_65 : EC := .sq c8_48 c8_64
@[simp] theorem c8_65e : Sq c8_65 c8_48 c8_64 := sqE _ _
def c8_66 : EC := .sq c8_47 c8_65
@[simp] theorem c8_66e : Sq c8_66 c8_47 c8_65 := sqE _ _
def c8_67 : EC := .sq c8_46 c8_66
@[simp] theorem c8_67e : Sq c8_67 c8_46 c8_66 := sqE _ _
def c8_68 : EC := .sq c8_5 c8_67
@[simp] theorem c8_68e : Sq c8_68 c8_5 c8_67 := sqE _ _
def c8_69 : EC := .sq c8_0 c8_68
@[simp] theorem c8_69e : Sq c8_69 c8_0 c8_68 := sqE _ _
def c_tallystonelaw52_NoteBalance_8 : EC := c8_69
theorem k_8 : ecF Try.prog 8 = some (106, c_tallystonelaw52_NoteBalance_8, [.tm 4]) := by kernel_rfl

/-- tallystone/tallystonelaw52.NoteOrder -/
@[simp] def c9_0l : List EO := [o 2 .box [t 0],
 o 3 .box [t 1],
 o 4 .mv [b false]]
def c9_0 : EC := .rg c9_0l false
@[simp] theorem c9_0e : Rg c9_0 c9_0l false := rgE _ _
@[simp] def c9_1l : List EO := [o 10 (.call 12) [],
 o 11 (.un .not) [t 10],
 m 12 11,
 n 13 12 (.load 21 true) [t 2],
 n 14 12 (.faddr 0) [t 3],
 n 15 12 (.load 4 true) [t 14],
 n 16 12 (.faddr 4) [t 3],
 n 17 12 (.load 4 true) [t 16],
 n 18 12 (.call 13) [t 13, t 15, t 17],
 n 19 12 (.un .not) [t 18],
 o 20 .pick [t 12, b true, t 19]]
def c9_1 : EC := .rg c9_1l false
@[simp] theorem c9_1e : Rg c9_1 c9_1l false := rgE _ _
@[simp] def c9_2l : List EO := [o 21 (.call 12) [],
 m 4 21]
def c9_2 : EC := .rg c9_2l false
@[simp] theorem c9_2e : Rg c9_2 c9_2l false := rgE _ _
def c9_3 : EC := .sq c9_2 .rt
@[simp] theorem c9_3e : Sq c9_3 c9_2 .rt := sqE _ _
def c9_4 : EC := .cd (t 20) c9_3 .skip
@[simp] theorem c9_4e : Cd c9_4 (t 20) c9_3 .skip := cdE _ _ _
def c9_5 : EC := .sq c9_1 c9_4
@[simp] theorem c9_5e : Sq c9_5 c9_1 c9_4 := sqE _ _
@[simp] def c9_6l : List EO := [o 5 .mv [c (.fn (.func 27) [])]]
def c9_6 : EC := .rg c9_6l false
@[simp] theorem c9_6e : Rg c9_6 c9_6l false := rgE _ _
@[simp] def c9_7l : List EO := [o 23 (.load 21 true) [t 2],
 o 24 (.faddr 0) [t 3],
 o 25 (.load 4 true) [t 24],
 o 26 (.faddr 4) [t 3],
 o 27 (.load 4 true) [t 26],
 o 28 (.call 21) [t 23, t 25, t 27],
 m 22 28,
 o 29 (.ext 0) [t 22],
 o 30 (.ext 1) [t 22],
 m 6 29,
 m 7 30]
def c9_7 : EC := .rg c9_7l false
@[simp] theorem c9_7e : Rg c9_7 c9_7l false := rgE _ _
@[simp] def c9_8l : List EO := [o 32 (.load 21 true) [t 2],
 m 33 5,
 o 34 (.faddr 0) [t 3],
 o 35 (.load 4 true) [t 34],
 o 36 .callv [t 33, t 35],
 m 37 5,
 o 38 (.faddr 4) [t 3],
 o 39 (.load 4 true) [t 38],
 o 40 .callv [t 37, t 39],
 o 41 (.call 21) [t 32, t 36, t 40],
 m 31 41,
 o 42 (.ext 0) [t 31],
 o 43 (.ext 1) [t 31],
 m 8 42,
 m 9 43]
def c9_8 : EC := .rg c9_8l true
@[simp] theorem c9_8e : Rg c9_8 c9_8l true := rgE _ _
@[simp] def c9_9l : List EO := [m 44 7,
 m 45 9,
 o 46 (.bin .eql) [t 44, t 45],
 m 47 46,
 y 48 47 .mv [t 6],
 y 49 47 (.call 24) [t 48],
 y 50 47 .mv [t 8],
 y 51 47 (.call 24) [t 50],
 y 52 47 (.call 23) [t 49, t 51],
 o 53 .pick [t 47, t 52, b false],
 m 4 53]
def c9_9 : EC := .rg c9_9l false
@[simp] theorem c9_9e : Rg c9_9 c9_9l false := rgE _ _
def c9_10 : EC := .sq c9_9 .rt
@[simp] theorem c9_10e : Sq c9_10 c9_9 .rt := sqE _ _
def c9_11 : EC := .sq c9_8 c9_10
@[simp] theorem c9_11e : Sq c9_11 c9_8 c9_10 := sqE _ _
def c9_12 : EC := .sq c9_7 c9_11
@[simp] theorem c9_12e : Sq c9_12 c9_7 c9_11 := sqE _ _
def c9_13 : EC := .sq c9_6 c9_12
@[simp] theorem c9_13e : Sq c9_13 c9_6 c9_12 := sqE _ _
def c9_14 : EC := .sq c9_5 c9_13
@[simp] theorem c9_14e : Sq c9_14 c9_5 c9_13 := sqE _ _
def c9_15 : EC := .sq c9_0 c9_14
@[simp] theorem c9_15e : Sq c9_15 c9_0 c9_14 := sqE _ _
def c_tallystonelaw52_NoteOrder_9 : EC := c9_15
theorem k_9 : ecF Try.prog 9 = some (54, c_tallystonelaw52_NoteOrder_9, [.tm 4]) := by kernel_rfl

/-- tallystone/shell.Name -/
@[simp] def c10_0l : List EO := [o 2 .mv [c (.t (.str []))]]
def c10_0 : EC := .rg c10_0l false
@[simp] theorem c10_0e : Rg c10_0 c10_0l false := rgE _ _
@[simp] def c10_1l : List EO := [o 4 (.build [.t (.str []), .t (.str []), .t (.str []), .t (.str []), .t (.str []), .t (.str []), .t (.str []), .t (.str []), .t (.str []), .t (.str []), .t (.str []), .t (.str []), .t (.str []), .t (.str []), .t (.str []), .t (.str []), .t (.str []), .t (.str []), .t (.str []), .t (.str [])] [(0, 1), (1, 1), (2, 1), (3, 1), (4, 1), (5, 1), (6, 1), (7, 1), (8, 1), (9, 1), (10, 1), (11, 1), (12, 1), (13, 1), (14, 1), (15, 1), (16, 1), (17, 1), (18, 1), (19, 1)]) [c (.t (.str [111, 107])), c (.t (.str [97, 114, 103, 117, 109, 101, 110, 116])), c (.t (.str [114, 97, 110, 103, 101])), c (.t (.str [115, 121, 110, 116, 97, 120])), c (.t (.str [102, 111, 114, 109])), c (.t (.str [115, 117, 109])), c (.t (.str [108, 105, 109, 105, 116])), c (.t (.str [115, 116, 97, 116, 101])), c (.t (.str [110, 111, 110, 101])), c (.t (.str [100, 117, 112, 108, 105, 99, 97, 116, 101])), c (.t (.str [100, 105, 118, 105, 100, 101])), c (.t (.str [117, 110, 98, 97, 108, 97, 110, 99, 101, 100])), c (.t (.str [108, 111, 99, 107, 101, 100])), c (.t (.str [114, 97, 116, 101])), c (.t (.str [115, 105, 110, 103, 117, 108, 97, 114])), c (.t (.str [109, 97, 112, 112, 105, 110, 103])), c (.t (.str [116, 121, 112, 101])), c (.t (.str [117, 110, 107, 110, 111, 119, 110])), c (.t (.str [99, 111, 110, 102, 108, 105, 99, 116])), c (.t (.str [116, 111, 114, 110]))],
 o 3 (.alloc [.t (.str []), .t (.str []), .t (.str []), .t (.str []), .t (.str []), .t (.str []), .t (.str []), .t (.str []), .t (.str []), .t (.str []), .t (.str []), .t (.str []), .t (.str []), .t (.str []), .t (.str []), .t (.str []), .t (.str []), .t (.str []), .t (.str []), .t (.str [])]) [],
 u (.store 20) [t 3, t 4]]
def c10_1 : EC := .rg c10_1l false
@[simp] theorem c10_1e : Rg c10_1 c10_1l false := rgE _ _
@[simp] def c10_2l : List EO := [m 5 0,
 o 6 (.bin .lss) [t 5, i 0],
 m 7 6,
 n 8 7 .mv [t 0],
 n 9 7 (.bin .geq) [t 8, i 20],
 o 10 .pick [t 7, b true, t 9]]
def c10_2 : EC := .rg c10_2l false
@[simp] theorem c10_2e : Rg c10_2 c10_2l false := rgE _ _
@[simp] def c10_3l : List EO := [o 2 .mv [c (.t (.str []))]]
def c10_3 : EC := .rg c10_3l false
@[simp] theorem c10_3e : Rg c10_3 c10_3l false := rgE _ _
def c10_4 : EC := .sq c10_3 .rt
@[simp] theorem c10_4e : Sq c10_4 c10_3 .rt := sqE _ _
def c10_5 : EC := .cd (t 10) c10_4 .skip
@[simp] theorem c10_5e : Cd c10_5 (t 10) c10_4 .skip := cdE _ _ _
def c10_6 : EC := .sq c10_2 c10_5
@[simp] theorem c10_6e : Sq c10_6 c10_2 c10_5 := sqE _ _
@[simp] def c10_7l : List EO := [m 11 0,
 o 12 (.iaA 20 1) [t 3, t 11],
 o 13 (.load 1 false) [t 12],
 m 2 13]
def c10_7 : EC := .rg c10_7l false
@[simp] theorem c10_7e : Rg c10_7 c10_7l false := rgE _ _
def c10_8 : EC := .sq c10_7 .rt
@[simp] theorem c10_8e : Sq c10_8 c10_7 .rt := sqE _ _
def c10_9 : EC := .sq c10_6 c10_8
@[simp] theorem c10_9e : Sq c10_9 c10_6 c10_8 := sqE _ _
def c10_10 : EC := .sq c10_1 c10_9
@[simp] theorem c10_10e : Sq c10_10 c10_1 c10_9 := sqE _ _
def c10_11 : EC := .sq c10_0 c10_10
@[simp] theorem c10_11e : Sq c10_11 c10_0 c10_10 := sqE _ _
def c_shell_Name_10 : EC := c10_11
theorem k_10 : ecF Try.prog 10 = some (14, c_shell_Name_10, [.tm 2]) := by kernel_rfl

/-- tallystone/tallystoneref58.Name -/
@[simp] def c11_0l : List EO := [o 2 .mv [c (.t (.str []))]]
def c11_0 : EC := .rg c11_0l false
@[simp] theorem c11_0e : Rg c11_0 c11_0l false := rgE _ _
@[simp] def c11_1l : List EO := [o 4 (.bsl 1) [c (.t (.str [111, 107])), c (.t (.str [97, 114, 103, 117, 109, 101, 110, 116])), c (.t (.str [114, 97, 110, 103, 101])), c (.t (.str [115, 121, 110, 116, 97, 120])), c (.t (.str [102, 111, 114, 109])), c (.t (.str [115, 117, 109])), c (.t (.str [108, 105, 109, 105, 116])), c (.t (.str [115, 116, 97, 116, 101])), c (.t (.str [110, 111, 110, 101])), c (.t (.str [100, 117, 112, 108, 105, 99, 97, 116, 101])), c (.t (.str [100, 105, 118, 105, 100, 101])), c (.t (.str [117, 110, 98, 97, 108, 97, 110, 99, 101, 100])), c (.t (.str [108, 111, 99, 107, 101, 100])), c (.t (.str [114, 97, 116, 101])), c (.t (.str [115, 105, 110, 103, 117, 108, 97, 114])), c (.t (.str [109, 97, 112, 112, 105, 110, 103])), c (.t (.str [116, 121, 112, 101])), c (.t (.str [117, 110, 107, 110, 111, 119, 110])), c (.t (.str [99, 111, 110, 102, 108, 105, 99, 116])), c (.t (.str [116, 111, 114, 110]))],
 m 3 4]
def c11_1 : EC := .rg c11_1l false
@[simp] theorem c11_1e : Rg c11_1 c11_1l false := rgE _ _
@[simp] def c11_2l : List EO := [m 5 0,
 o 6 (.bin .lss) [t 5, i 0],
 m 7 6,
 n 8 7 .mv [t 0],
 n 9 7 .mv [t 3],
 n 10 7 .lenL [t 9],
 n 11 7 (.bin .geq) [t 8, t 10],
 o 12 .pick [t 7, b true, t 11]]
def c11_2 : EC := .rg c11_2l false
@[simp] theorem c11_2e : Rg c11_2 c11_2l false := rgE _ _
@[simp] def c11_3l : List EO := [o 2 .mv [c (.t (.str []))]]
def c11_3 : EC := .rg c11_3l false
@[simp] theorem c11_3e : Rg c11_3 c11_3l false := rgE _ _
def c11_4 : EC := .sq c11_3 .rt
@[simp] theorem c11_4e : Sq c11_4 c11_3 .rt := sqE _ _
def c11_5 : EC := .cd (t 12) c11_4 .skip
@[simp] theorem c11_5e : Cd c11_5 (t 12) c11_4 .skip := cdE _ _ _
def c11_6 : EC := .sq c11_2 c11_5
@[simp] theorem c11_6e : Sq c11_6 c11_2 c11_5 := sqE _ _
@[simp] def c11_7l : List EO := [m 13 3,
 m 14 0,
 o 15 (.iaS 1) [t 13, t 14],
 o 16 (.load 1 false) [t 15],
 m 2 16]
def c11_7 : EC := .rg c11_7l false
@[simp] theorem c11_7e : Rg c11_7 c11_7l false := rgE _ _
def c11_8 : EC := .sq c11_7 .rt
@[simp] theorem c11_8e : Sq c11_8 c11_7 .rt := sqE _ _
def c11_9 : EC := .sq c11_6 c11_8
@[simp] theorem c11_9e : Sq c11_9 c11_6 c11_8 := sqE _ _
def c11_10 : EC := .sq c11_1 c11_9
@[simp] theorem c11_10e : Sq c11_10 c11_1 c11_9 := sqE _ _
def c11_11 : EC := .sq c11_0 c11_10
@[simp] theorem c11_11e : Sq c11_11 c11_0 c11_10 := sqE _ _
def c_tallystoneref58_Name_11 : EC := c11_11
theorem k_11 : ecF Try.prog 11 = some (17, c_tallystoneref58_Name_11, [.tm 2]) := by kernel_rfl

/-- tallystone/tallystonelaw52.awake -/
@[simp] def c12_0l : List EO := [o 0 .mv [b false]]
def c12_0 : EC := .rg c12_0l false
@[simp] theorem c12_0e : Rg c12_0 c12_0l false := rgE _ _
@[simp] def c12_1l : List EO := [o 5 (.build [.t (.int .i64 0), .t (.int .i64 0), .t (.int .i64 0), .t (.int .i64 0), .t (.int .i64 0), .t (.int .i64 0), .t (.int .i64 0)] [(3, 1), (5, 1), (6, 1)]) [i 1010, i 20460, i 100],
 o 6 (.bsl 7) [t 5],
 o 7 (.build [.t (.int .i64 0), .snil, .snil, .snil] [(1, 1)]) [t 6],
 o 1 (.alloc [.t (.int .i64 0), .snil, .snil, .snil]) [],
 u (.store 4) [t 1, t 7]]
def c12_1 : EC := .rg c12_1l false
@[simp] theorem c12_1e : Rg c12_1 c12_1l false := rgE _ _
@[simp] def c12_2l : List EO := [o 8 (.build [.t (.int .i64 0), .t (.int .i64 0), .t (.int .i64 0), .t (.int .i64 0), .t (.int .i64 0), .t (.int .i64 0), .t (.int .i64 0)] [(3, 1), (5, 1), (6, 1)]) [i 1010, i 20460, i 95],
 o 9 (.build [.t (.int .i64 0), .t (.int .i64 0), .t (.int .i64 0), .t (.int .i64 0), .t (.int .i64 0), .t (.int .i64 0), .t (.int .i64 0)] [(3, 1), (5, 1), (6, 1)]) [i 1010, i 20490, i 30],
 o 10 (.bsl 7) [t 8, t 9],
 o 11 (.build [.t (.int .i64 0), .t (.int .i64 0)] [(0, 1), (1, 1)]) [i 1010, i (-30)],
 o 12 (.bsl 2) [t 11],
 o 13 (.build [.t (.int .i64 0), .t (.int .i64 0), .t (.int .i64 0), .t (.int .i64 0), .snil] [(0, 1), (4, 1)]) [i 3, t 12],
 o 14 (.bsl 5) [t 13],
 o 15 (.build [.t (.int .i64 0), .snil, .snil, .snil] [(0, 1), (1, 1), (2, 1)]) [i 1, t 10, t 14],
 o 2 (.alloc [.t (.int .i64 0), .snil, .snil, .snil]) [],
 u (.store 4) [t 2, t 15]]
def c12_2 : EC := .rg c12_2l false
@[simp] theorem c12_2e : Rg c12_2 c12_2l false := rgE _ _
@[simp] def c12_3l : List EO := [o 17 (.call 28) [],
 o 18 (.load 4 true) [t 1],
 o 19 (.load 4 true) [t 2],
 o 20 (.call 14) [t 17, t 18, t 19, i 1010],
 m 16 20,
 o 21 (.ext 0) [t 16],
 o 22 (.ext 1) [t 16],
 o 3 (.alloc [.t (.int .i64 0), .t (.int .i64 0), .t (.int .i64 0), .t (.int .i64 0), .t (.int .i64 0), .t (.int .i64 0), .t (.int .i64 0), .t (.int .i64 0), .t (.int .i64 0), .t (.int .i64 0), .t (.int .i64 0), .t (.int .i64 0), .t (.int .i64 0), .t (.int .i64 0), .t (.int .i64 0), .t (.int .i64 0)]) [],
 u (.store 16) [t 3, t 21],
 m 4 22]
def c12_3 : EC := .rg c12_3l true
@[simp] theorem c12_3e : Rg c12_3 c12_3l true := rgE _ _
@[simp] def c12_4l : List EO := [m 23 4,
 o 24 (.bin .eql) [t 23, i 0],
 m 25 24,
 y 26 25 (.load 16 true) [t 3],
 y 27 25 (.build [.t (.int .i64 0), .t (.int .i64 0), .t (.int .i64 0), .t (.int .i64 0), .t (.int .i64 0), .t (.int .i64 0), .t (.int .i64 0), .t (.int .i64 0), .t (.int .i64 0), .t (.int .i64 0), .t (.int .i64 0)] [(3, 1)]) [i (-30)],
 y 28 25 (.build [.t (.int .i64 0), .t (.int .i64 0), .t (.int .i64 0), .t (.int .i64 0), .t (.int .i64 0), .t (.int .i64 0), .t (.int .i64 0), .t (.int .i64 0), .t (.int .i64 0), .t (.int .i64 0), .t (.int .i64 0), .t (.int .i64 0), .t (.int .i64 0), .t (.int .i64 0), .t (.int .i64 0), .t (.int .i64 0)] [(0, 1), (1, 1), (2, 1), (3, 1), (4, 1), (5, 11)]) [i 1010, i 100, i 30, i (-5), i 95, t 27],
 y 29 25 (.eqv false true [1, 1, 1, 1, 1, 1, 1, 1, 1, 1, 1, 1, 1, 1, 1, 1]) [t 26, t 28],
 o 30 .pick [t 25, t 29, b false],
 m 0 30]
def c12_4 : EC := .rg c12_4l false
@[simp] theorem c12_4e : Rg c12_4 c12_4l false := rgE _ _
def c12_5 : EC := .sq c12_4 .rt
@[simp] theorem c12_5e : Sq c12_5 c12_4 .rt := sqE _ _
def c12_6 : EC := .sq c12_3 c12_5
@[simp] theorem c12_6e : Sq c12_6 c12_3 c12_5 := sqE _ _
def c12_7 : EC := .sq c12_2 c12_6
@[simp] theorem c12_7e : Sq c12_7 c12_2 c12_6 := sqE _ _
def c12_8 : EC := .sq c12_1 c12_7
@[simp] theorem c12_8e : Sq c12_8 c12_1 c12_7 := sqE _ _
def c12_9 : EC := .sq c12_0 c12_8
@[simp] theorem c12_9e : Sq c12_9 c12_0 c12_8 := sqE _ _
def c_tallystonelaw52_awake_12 : EC := c12_9
theorem k_12 : ecF Try.prog 12 = some (31, c_tallystonelaw52_awake_12, [.tm 0]) := by kernel_rfl

/-- tallystone/tallystonelaw52.few -/
@[simp] def c13_0l : List EO := [o 3 .box [t 0],
 o 4 .box [t 1],
 o 5 .box [t 2],
 o 6 .mv [b false]]
def c13_0 : EC := .rg c13_0l false
@[simp] theorem c13_0e : Rg c13_0 c13_0l false := rgE _ _
@[simp] def c13_1l : List EO := [o 7 (.load 21 true) [t 3],
 o 8 (.call 29) [t 7],
 m 9 8,
 y 10 9 (.load 4 true) [t 4],
 y 11 9 (.call 30) [t 10],
 o 12 .pick [t 9, t 11, b false],
 m 13 12,
 y 14 13 (.load 4 true) [t 5],
 y 15 13 (.call 30) [t 14],
 o 16 .pick [t 13, t 15, b false],
 m 6 16]
def c13_1 : EC := .rg c13_1l false
@[simp] theorem c13_1e : Rg c13_1 c13_1l false := rgE _ _
def c13_2 : EC := .sq c13_1 .rt
@[simp] theorem c13_2e : Sq c13_2 c13_1 .rt := sqE _ _
def c13_3 : EC := .sq c13_0 c13_2
@[simp] theorem c13_3e : Sq c13_3 c13_0 c13_2 := sqE _ _
def c_tallystonelaw52_few_13 : EC := c13_3
theorem k_13 : ecF Try.prog 13 = some (17, c_tallystonelaw52_few_13, [.tm 6]) := by kernel_rfl

/-- tallystone/note.Make -/
@[simp] def c14_0l : List EO := [o 4 .box [t 0],
 o 5 .box [t 1],
 o 6 .box [t 2],
 o 8 (.alloc [.t (.int .i64 0), .t (.int .i64 0), .t (.int .i64 0), .t (.int .i64 0), .t (.int .i64 0), .t (.int .i64 0), .t (.int .i64 0), .t (.int .i64 0), .t (.int .i64 0), .t (.int .i64 0), .t (.int .i64 0), .t (.int .i64 0), .t (.int .i64 0), .t (.int .i64 0), .t (.int .i64 0), .t (.int .i64 0)]) [],
 o 9 .mv [i 0]]
def c14_0 : EC := .rg c14_0l false
@[simp] theorem c14_0e : Rg c14_0 c14_0l false := rgE _ _
@[simp] def c14_1l : List EO := [o 18 (.load 21 true) [t 4],
 o 19 (.faddr 0) [t 6],
 o 20 (.load 1 false) [t 19],
 o 21 (.call 31) [t 18, t 20],
 m 17 21,
 o 22 (.ext 0) [t 17],
 o 23 (.ext 1) [t 17],
 o 24 (.ext 2) [t 17],
 m 10 22,
 m 11 23,
 m 12 24]
def c14_1 : EC := .rg c14_1l false
@[simp] theorem c14_1e : Rg c14_1 c14_1l false := rgE _ _
@[simp] def c14_2l : List EO := [m 25 12,
 o 26 (.bin .neq) [t 25, i 0]]
def c14_2 : EC := .rg c14_2l false
@[simp] theorem c14_2e : Rg c14_2 c14_2l false := rgE _ _
@[simp] def c14_3l : List EO := [o 27 (.build [.t (.int .i64 0), .t (.int .i64 0), .t (.int .i64 0), .t (.int .i64 0), .t (.int .i64 0), .t (.int .i64 0), .t (.int .i64 0), .t (.int .i64 0), .t (.int .i64 0), .t (.int .i64 0), .t (.int .i64 0), .t (.int .i64 0), .t (.int .i64 0), .t (.int .i64 0), .t (.int .i64 0), .t (.int .i64 0)] []) [],
 m 28 12,
 u (.store 16) [t 8, t 27],
 m 9 28]
def c14_3 : EC := .rg c14_3l false
@[simp] theorem c14_3e : Rg c14_3 c14_3l false := rgE _ _
def c14_4 : EC := .sq c14_3 .rt
@[simp] theorem c14_4e : Sq c14_4 c14_3 .rt := sqE _ _
def c14_5 : EC := .cd (t 26) c14_4 .skip
@[simp] theorem c14_5e : Cd c14_5 (t 26) c14_4 .skip := cdE _ _ _
def c14_6 : EC := .sq c14_2 c14_5
@[simp] theorem c14_6e : Sq c14_6 c14_2 c14_5 := sqE _ _
@[simp] def c14_7l : List EO := [o 30 (.load 21 true) [t 4],
 m 31 3,
 o 32 (.call 32) [t 30, t 31],
 m 29 32,
 o 33 (.ext 0) [t 29],
 o 34 (.ext 1) [t 29],
 o 13 (.alloc [.t (.int .i64 0), .t (.int .i64 0), .t (.int .i64 0), .t (.int .i64 0)]) [],
 u (.store 4) [t 13, t 33],
 m 14 34]
def c14_7 : EC := .rg c14_7l false
@[simp] theorem c14_7e : Rg c14_7 c14_7l false := rgE _ _
@[simp] def c14_8l : List EO := [m 35 14,
 o 36 (.un .not) [t 35]]
def c14_8 : EC := .rg c14_8l false
@[simp] theorem c14_8e : Rg c14_8 c14_8l false := rgE _ _
@[simp] def c14_9l : List EO := [o 37 (.build [.t (.int .i64 0), .t (.int .i64 0), .t (.int .i64 0), .t (.int .i64 0), .t (.int .i64 0), .t (.int .i64 0), .t (.int .i64 0), .t (.int .i64 0), .t (.int .i64 0), .t (.int .i64 0), .t (.int .i64 0), .t (.int .i64 0), .t (.int .i64 0), .t (.int .i64 0), .t (.int .i64 0), .t (.int .i64 0)] []) [],
 u (.store 16) [t 8, t 37],
 o 9 .mv [i 8]]
def c14_9 : EC := .rg c14_9l false
@[simp] theorem c14_9e : Rg c14_9 c14_9l false := rgE _ _
def c14_10 : EC := .sq c14_9 .rt
@[simp] theorem c14_10e : Sq c14_10 c14_9 .rt := sqE _ _
def c14_11 : EC := .cd (t 36) c14_10 .skip
@[simp] theorem c14_11e : Cd c14_11 (t 36) c14_10 .skip := cdE _ _ _
def c14_12 : EC := .sq c14_8 c14_11
@[simp] theorem c14_12e : Sq c14_12 c14_8 c14_11 := sqE _ _
def c14_13 : EC := .sq c14_7 c14_12
@[simp] theorem c14_13e : Sq c14_13 c14_7 c14_12 := sqE _ _
@[simp] def c14_14l : List EO := [m 38 3,
 o 39 (.build [.t (.int .i64 0), .t (.int .i64 0), .t (.int .i64 0), .t (.int .i64 0), .t (.int .i64 0), .t (.int .i64 0), .t (.int .i64 0), .t (.int .i64 0), .t (.int .i64 0), .t (.int .i64 0), .t (.int .i64 0), .t (.int .i64 0), .t (.int .i64 0), .t (.int .i64 0), .t (.int .i64 0), .t (.int .i64 0)] [(0, 1)]) [t 38],
 o 15 (.alloc [.t (.int .i64 0), .t (.int .i64 0), .t (.int .i64 0), .t (.int .i64 0), .t (.int .i64 0), .t (.int .i64 0), .t (.int .i64 0), .t (.int .i64 0), .t (.int .i64 0), .t (.int .i64 0), .t (.int .i64 0), .t (.int .i64 0), .t (.int .i64 0), .t (.int .i64 0), .t (.int .i64 0), .t (.int .i64 0)]) [],
 u (.store 16) [t 15, t 39]]
def c14_14 : EC := .rg c14_14l false
@[simp] theorem c14_14e : Rg c14_14 c14_14l false := rgE _ _
@[simp] def c14_15l : List EO := [m 40 10,
 m 41 11,
 o 42 (.build [.t (.nilp), .t (.int .i64 0), .t (.int .i64 0)] [(0, 1), (1, 1), (2, 1)]) [t 15, t 40, t 41],
 o 16 (.alloc [.t (.nilp), .t (.int .i64 0), .t (.int .i64 0)]) [],
 u (.store 3) [t 16, t 42]]
def c14_15 : EC := .rg c14_15l false
@[simp] theorem c14_15e : Rg c14_15 c14_15l false := rgE _ _
@[simp] def c14_16l : List EO := [o 43 (.load 3 true) [t 16],
 o 44 (.load 4 true) [t 5],
 o 45 (.call 33) [t 43, t 44]]
def c14_16 : EC := .rg c14_16l false
@[simp] theorem c14_16e : Rg c14_16 c14_16l false := rgE _ _
@[simp] def c14_17l : List EO := [o 46 (.load 3 true) [t 16],
 o 47 (.load 4 true) [t 6],
 o 48 (.call 34) [t 46, t 47]]
def c14_17 : EC := .rg c14_17l false
@[simp] theorem c14_17e : Rg c14_17 c14_17l false := rgE _ _
@[simp] def c14_18l : List EO := [o 49 (.load 16 true) [t 15],
 o 50 (.call 36) [t 49],
 o 51 (.call 35) [t 50, c (.fn (.func 37) [])]]
def c14_18 : EC := .rg c14_18l false
@[simp] theorem c14_18e : Rg c14_18 c14_18l false := rgE _ _
@[simp] def c14_19l : List EO := [o 52 (.build [.t (.int .i64 0), .t (.int .i64 0), .t (.int .i64 0), .t (.int .i64 0), .t (.int .i64 0), .t (.int .i64 0), .t (.int .i64 0), .t (.int .i64 0), .t (.int .i64 0), .t (.int .i64 0), .t (.int .i64 0), .t (.int .i64 0), .t (.int .i64 0), .t (.int .i64 0), .t (.int .i64 0), .t (.int .i64 0)] []) [],
 u (.store 16) [t 8, t 52],
 o 9 .mv [i 2]]
def c14_19 : EC := .rg c14_19l false
@[simp] theorem c14_19e : Rg c14_19 c14_19l false := rgE _ _
def c14_20 : EC := .sq c14_19 .rt
@[simp] theorem c14_20e : Sq c14_20 c14_19 .rt := sqE _ _
def c14_21 : EC := .cd (t 51) c14_20 .skip
@[simp] theorem c14_21e : Cd c14_21 (t 51) c14_20 .skip := cdE _ _ _
def c14_22 : EC := .sq c14_18 c14_21
@[simp] theorem c14_22e : Sq c14_22 c14_18 c14_21 := sqE _ _
@[simp] def c14_23l : List EO := [o 53 (.load 16 true) [t 15],
 u (.store 16) [t 8, t 53],
 o 9 .mv [i 0]]
def c14_23 : EC := .rg c14_23l false
@[simp] theorem c14_23e : Rg c14_23 c14_23l false := rgE _ _
def c14_24 : EC := .sq c14_23 .rt
@[simp] theorem c14_24e : Sq c14_24 c14_23 .rt := sqE _ _
def c14_25 : EC := .sq c14_22 c14_24
@[simp] theorem c14_25e : Sq c14_25 c14_22 c14_24 := sqE _ _
def c14_26 : EC := .sq c14_17 c14_25
@[simp] theorem c14_26e : Sq c14_26 c14_17 c14_25 := sqE _ _
def c14_27 : EC := .sq c14_16 c14_26
@[simp] theorem c14_27e : Sq c14_27 c14_16 c14_26 := sqE _ _
def c14_28 : EC := .sq c14_15 c14_27
@[simp] theorem c14_28e : Sq c14_28 c14_15 c14_27 := sqE _ _
def c14_29 : EC := .sq c14_14 c14_28
@[simp] theorem c14_29e : Sq c14_29 c14_14 c14_28 := sqE _ _
def c14_30 : EC := .sq c14_13 c14_29
@[simp] theorem c14_30e : Sq c14_30 c14_13 c14_29 := sqE _ _
def c14_31 : EC := .sq c14_6 c14_30
@[simp] theorem c14_31e : Sq c14_31 c14_6 c14_30 := sqE _ _
def c14_32 : EC := .sq c14_1 c14_31
@[simp] theorem c14_32e : Sq c14_32 c14_1 c14_31 := sqE _ _
def c14_33 : EC := .sq c14_0 c14_32
@[simp] theorem c14_33e : Sq c14_33 c14_0 c14_32 := sqE _ _
def c_note_Make_14 : EC := c14_33
theorem k_14 : ecF Try.prog 14 = some (54, c_note_Make_14, [.ce 8 16 true, .tm 9]) := by kernel_rfl

/-- tallystone/tallystoneref52.Make -/
@[simp] def c15_0l : List EO := [o 4 .box [t 0],
 o 5 .box [t 1],
 o 6 .box [t 2],
 o 8 (.alloc [.t (.int .i64 0), .t (.int .i64 0), .t (.int .i64 0), .t (.int .i64 0), .t (.int .i64 0), .t (.int .i64 0), .t (.int .i64 0), .t (.int .i64 0), .t (.int .i64 0), .t (.int .i64 0), .t (.int .i64 0), .t (.int .i64 0), .t (.int .i64 0), .t (.int .i64 0), .t (.int .i64 0), .t (.int .i64 0)]) [],
 o 9 .mv [i 0]]
def c15_0 : EC := .rg c15_0l false
@[simp] theorem c15_0e : Rg c15_0 c15_0l false := rgE _ _
@[simp] def c15_1l : List EO := [o 22 (.load 21 true) [t 4],
 o 23 (.call 18) [t 22],
 o 24 (.un .not) [t 23]]
def c15_1 : EC := .rg c15_1l false
@[simp] theorem c15_1e : Rg c15_1 c15_1l false := rgE _ _
@[simp] def c15_2l : List EO := [o 25 (.build [.t (.int .i64 0), .t (.int .i64 0), .t (.int .i64 0), .t (.int .i64 0), .t (.int .i64 0), .t (.int .i64 0), .t (.int .i64 0), .t (.int .i64 0), .t (.int .i64 0), .t (.int .i64 0), .t (.int .i64 0), .t (.int .i64 0), .t (.int .i64 0), .t (.int .i64 0), .t (.int .i64 0), .t (.int .i64 0)] []) [],
 u (.store 16) [t 8, t 25],
 o 9 .mv [i 1]]
def c15_2 : EC := .rg c15_2l false
@[simp] theorem c15_2e : Rg c15_2 c15_2l false := rgE _ _
def c15_3 : EC := .sq c15_2 .rt
@[simp] theorem c15_3e : Sq c15_3 c15_2 .rt := sqE _ _
def c15_4 : EC := .cd (t 24) c15_3 .skip
@[simp] theorem c15_4e : Cd c15_4 (t 24) c15_3 .skip := cdE _ _ _
def c15_5 : EC := .sq c15_1 c15_4
@[simp] theorem c15_5e : Sq c15_5 c15_1 c15_4 := sqE _ _
@[simp] def c15_6l : List EO := [o 27 (.faddr 1) [t 4],
 o 28 (.load 3 true) [t 27],
 o 29 (.faddr 0) [t 6],
 o 30 (.load 1 false) [t 29],
 o 31 (.call 19) [t 28, t 30],
 m 26 31,
 o 32 (.ext 0) [t 26],
 o 33 (.ext 1) [t 26],
 m 10 32,
 m 11 33]
def c15_6 : EC := .rg c15_6l false
@[simp] theorem c15_6e : Rg c15_6 c15_6l false := rgE _ _
@[simp] def c15_7l : List EO := [m 34 11,
 o 35 (.bin .neq) [t 34, i 0]]
def c15_7 : EC := .rg c15_7l false
@[simp] theorem c15_7e : Rg c15_7 c15_7l false := rgE _ _
@[simp] def c15_8l : List EO := [o 36 (.build [.t (.int .i64 0), .t (.int .i64 0), .t (.int .i64 0), .t (.int .i64 0), .t (.int .i64 0), .t (.int .i64 0), .t (.int .i64 0), .t (.int .i64 0), .t (.int .i64 0), .t (.int .i64 0), .t (.int .i64 0), .t (.int .i64 0), .t (.int .i64 0), .t (.int .i64 0), .t (.int .i64 0), .t (.int .i64 0)] []) [],
 u (.store 16) [t 8, t 36],
 o 9 .mv [i 2]]
def c15_8 : EC := .rg c15_8l false
@[simp] theorem c15_8e : Rg c15_8 c15_8l false := rgE _ _
def c15_9 : EC := .sq c15_8 .rt
@[simp] theorem c15_9e : Sq c15_9 c15_8 .rt := sqE _ _
def c15_10 : EC := .cd (t 35) c15_9 .skip
@[simp] theorem c15_10e : Cd c15_10 (t 35) c15_9 .skip := cdE _ _ _
def c15_11 : EC := .sq c15_7 c15_10
@[simp] theorem c15_11e : Sq c15_11 c15_7 c15_10 := sqE _ _
@[simp] def c15_12l : List EO := [o 38 (.faddr 1) [t 4],
 o 39 (.load 3 true) [t 38],
 o 40 (.faddr 0) [t 6],
 o 41 (.load 1 false) [t 40],
 o 42 (.call 20) [t 39, t 41],
 m 37 42,
 o 43 (.ext 0) [t 37],
 o 44 (.ext 1) [t 37],
 m 12 43,
 m 13 44]
def c15_12 : EC := .rg c15_12l false
@[simp] theorem c15_12e : Rg c15_12 c15_12l false := rgE _ _
@[simp] def c15_13l : List EO := [o 46 (.load 21 true) [t 4],
 m 47 3,
 o 48 (.call 26) [t 46, t 47],
 m 45 48,
 o 49 (.ext 0) [t 45],
 o 50 (.ext 1) [t 45],
 o 14 (.alloc [.t (.int .i64 0), .t (.int .i64 0), .t (.int .i64 0), .t (.int .i64 0)]) [],
 u (.store 4) [t 14, t 49],
 m 15 50]
def c15_13 : EC := .rg c15_13l false
@[simp] theorem c15_13e : Rg c15_13 c15_13l false := rgE _ _
@[simp] def c15_14l : List EO := [m 51 15,
 o 52 (.un .not) [t 51]]
def c15_14 : EC := .rg c15_14l false
@[simp] theorem c15_14e : Rg c15_14 c15_14l false := rgE _ _
@[simp] def c15_15l : List EO := [o 53 (.build [.t (.int .i64 0), .t (.int .i64 0), .t (.int .i64 0), .t (.int .i64 0), .t (.int .i64 0), .t (.int .i64 0), .t (.int .i64 0), .t (.int .i64 0), .t (.int .i64 0), .t (.int .i64 0), .t (.int .i64 0), .t (.int .i64 0), .t (.int .i64 0), .t (.int .i64 0), .t (.int .i64 0), .t (.int .i64 0)] []) [],
 u (.store 16) [t 8, t 53],
 o 9 .mv [i 8]]
def c15_15 : EC := .rg c15_15l false
@[simp] theorem c15_15e : Rg c15_15 c15_15l false := rgE _ _
def c15_16 : EC := .sq c15_15 .rt
@[simp] theorem c15_16e : Sq c15_16 c15_15 .rt := sqE _ _
def c15_17 : EC := .cd (t 52) c15_16 .skip
@[simp] theorem c15_17e : Cd c15_17 (t 52) c15_16 .skip := cdE _ _ _
def c15_18 : EC := .sq c15_14 c15_17
@[simp] theorem c15_18e : Sq c15_18 c15_14 c15_17 := sqE _ _
def c15_19 : EC := .sq c15_13 c15_18
@[simp] theorem c15_19e : Sq c15_19 c15_13 c15_18 := sqE _ _
@[simp] def c15_20l : List EO := [o 54 (.load 4 true) [t 5],
 m 55 3,
 o 56 (.call 39) [t 54, t 55, i (-9223372036854775808), i 9223372036854775807],
 o 57 (.load 4 true) [t 6],
 m 58 3,
 o 59 (.call 39) [t 57, t 58, i (-9223372036854775808), i 9223372036854775807],
 m 16 56,
 m 17 59]
def c15_20 : EC := .rg c15_20l true
@[simp] theorem c15_20e : Rg c15_20 c15_20l true := rgE _ _
@[simp] def c15_21l : List EO := [m 60 3,
 m 61 16,
 o 62 (.load 4 true) [t 5],
 m 63 3,
 o 64 (.call 40) [t 62, t 63, i (-1)],
 o 65 (.bin .add) [t 61, t 64],
 o 66 (.load 4 true) [t 6],
 m 67 3,
 m 68 10,
 m 69 12,
 o 70 (.call 39) [t 66, t 67, t 68, t 69],
 m 71 17,
 o 72 (.load 4 true) [t 6],
 m 73 3,
 o 74 (.call 40) [t 72, t 73, i (-1)],
 o 75 (.bin .add) [t 71, t 74],
 o 76 (.build [.t (.int .i64 0), .t (.int .i64 0), .t (.int .i64 0), .t (.int .i64 0), .t (.int .i64 0), .t (.int .i64 0), .t (.int .i64 0), .t (.int .i64 0), .t (.int .i64 0), .t (.int .i64 0), .t (.int .i64 0), .t (.int .i64 0), .t (.int .i64 0), .t (.int .i64 0), .t (.int .i64 0), .t (.int .i64 0)] [(0, 1), (1, 1), (2, 1), (4, 1)]) [t 60, t 65, t 70, t 75],
 o 18 (.alloc [.t (.int .i64 0), .t (.int .i64 0), .t (.int .i64 0), .t (.int .i64 0), .t (.int .i64 0), .t (.int .i64 0), .t (.int .i64 0), .t (.int .i64 0), .t (.int .i64 0), .t (.int .i64 0), .t (.int .i64 0), .t (.int .i64 0), .t (.int .i64 0), .t (.int .i64 0), .t (.int .i64 0), .t (.int .i64 0)]) [],
 u (.store 16) [t 18, t 76]]
def c15_21 : EC := .rg c15_21l true
@[simp] theorem c15_21e : Rg c15_21 c15_21l true := rgE _ _
@[simp] def c15_22l : List EO := [m 77 17,
 o 78 (.faddr 2) [t 18],
 o 79 (.load 1 false) [t 78],
 o 80 (.bin .sub) [t 77, t 79],
 m 81 16,
 o 82 (.bin .sub) [t 80, t 81],
 o 83 (.faddr 3) [t 18],
 u (.store 1) [t 83, t 82]]
def c15_22 : EC := .rg c15_22l false
@[simp] theorem c15_22e : Rg c15_22 c15_22l false := rgE _ _
@[simp] def c15_23l : List EO := [o 84 (.faddr 1) [t 18],
 o 85 (.load 1 false) [t 84],
 o 86 (.faddr 2) [t 18],
 o 87 (.load 1 false) [t 86],
 o 88 (.faddr 3) [t 18],
 o 89 (.load 1 false) [t 88],
 o 90 (.faddr 4) [t 18],
 o 91 (.load 1 false) [t 90],
 o 92 (.bsl 1) [t 85, t 87, t 89, t 91],
 m 19 92]
def c15_23 : EC := .rg c15_23l false
@[simp] theorem c15_23e : Rg c15_23 c15_23l false := rgE _ _
@[simp] def c15_24l : List EO := [o 20 .mv [i 1]]
def c15_24 : EC := .rg c15_24l false
@[simp] theorem c15_24e : Rg c15_24 c15_24l false := rgE _ _
@[simp] def c15_25l : List EO := [m 93 20,
 o 94 (.bin .leq) [t 93, i 10]]
def c15_25 : EC := .rg c15_25l false
@[simp] theorem c15_25e : Rg c15_25 c15_25l false := rgE _ _
def c15_26 : EC := .cd (t 94) .skip (.ex 0)
@[simp] theorem c15_26e : Cd c15_26 (t 94) .skip (.ex 0) := cdE _ _ _
def c15_27 : EC := .sq c15_25 c15_26
@[simp] theorem c15_27e : Sq c15_27 c15_25 c15_26 := sqE _ _
@[simp] def c15_28l : List EO := [m 97 20,
 o 98 (.load 4 true) [t 6],
 m 99 3,
 m 100 20,
 o 101 (.call 40) [t 98, t 99, t 100],
 o 102 (.load 4 true) [t 5],
 m 103 3,
 m 104 20,
 o 105 (.call 40) [t 102, t 103, t 104],
 o 106 (.bin .sub) [t 101, t 105],
 o 107 (.faddr 5) [t 18],
 o 108 (.iaA 11 1) [t 107, t 97],
 u (.store 1) [t 108, t 106]]
def c15_28 : EC := .rg c15_28l true
@[simp] theorem c15_28e : Rg c15_28 c15_28l true := rgE _ _
@[simp] def c15_29l : List EO := [m 109 19,
 m 110 20,
 o 111 (.faddr 5) [t 18],
 o 112 (.iaA 11 1) [t 111, t 110],
 o 113 (.load 1 false) [t 112],
 o 114 (.bsl 1) [t 113],
 o 115 (.app 3 1 8) [t 109, t 114],
 m 19 115]
def c15_29 : EC := .rg c15_29l false
@[simp] theorem c15_29e : Rg c15_29 c15_29l false := rgE _ _
def c15_30 : EC := .sq c15_28 c15_29
@[simp] theorem c15_30e : Sq c15_30 c15_28 c15_29 := sqE _ _
def c15_31 : EC := .bk 1 c15_30
@[simp] theorem c15_31e : Bk c15_31 1 c15_30 := bkE _ _
@[simp] def c15_32l : List EO := [m 95 20,
 o 96 (.bin .add) [t 95, i 1],
 m 20 96]
def c15_32 : EC := .rg c15_32l false
@[simp] theorem c15_32e : Rg c15_32 c15_32l false := rgE _ _
def c15_33 : EC := .sq c15_31 c15_32
@[simp] theorem c15_33e : Sq c15_33 c15_31 c15_32 := sqE _ _
def c15_34 : EC := .sq c15_27 c15_33
@[simp] theorem c15_34e : Sq c15_34 c15_27 c15_33 := sqE _ _
def c15_35 : EC := .bk 0 (.lp c15_34)
@[simp] theorem c15_35e : Bk c15_35 0 (.lp c15_34) := bkE _ _
def c15_36 : EC := .sq c15_24 c15_35
@[simp] theorem c15_36e : Sq c15_36 c15_24 c15_35 := sqE _ _
@[simp] def c15_37l : List EO := [o 21 .mv [i 0]]
def c15_37 : EC := .rg c15_37l false
@[simp] theorem c15_37e : Rg c15_37 c15_37l false := rgE _ _
@[simp] def c15_38l : List EO := [m 116 21,
 m 117 19,
 o 118 .lenL [t 117],
 o 119 (.bin .lss) [t 116, t 118]]
def c15_38 : EC := .rg c15_38l false
@[simp] theorem c15_38e : Rg c15_38 c15_38l false := rgE _ _
def c15_39 : EC := .cd (t 119) .skip (.ex 2)
@[simp] theorem c15_39e : Cd c15_39 (t 119) .skip (.ex 2) := cdE _ _ _
def c15_40 : EC := .sq c15_38 c15_39
@[simp] theorem c15_40e : Sq c15_40 c15_38 c15_39 := sqE _ _
@[simp] def c15_41l : List EO := [m 122 19,
 m 123 21,
 o 124 (.iaS 1) [t 122, t 123],
 o 125 (.load 1 false) [t 124],
 o 126 (.call 41) [t 125],
 o 127 (.un .not) [t 126]]
def c15_41 : EC := .rg c15_41l false
@[simp] theorem c15_41e : Rg c15_41 c15_41l false := rgE _ _
@[simp] def c15_42l : List EO := [o 128 (.build [.t (.int .i64 0), .t (.int .i64 0), .t (.int .i64 0), .t (.int .i64 0), .t (.int .i64 0), .t (.int .i64 0), .t (.int .i64 0), .t (.int .i64 0), .t (.int .i64 0), .t (.int .i64 0), .t (.int .i64 0), .t (.int .i64 0), .t (.int .i64 0), .t (.int .i64 0), .t (.int .i64 0), .t (.int .i64 0)] []) [],
 u (.store 16) [t 8, t 128],
 o 9 .mv [i 2]]
def c15_42 : EC := .rg c15_42l false
@[simp] theorem c15_42e : Rg c15_42 c15_42l false := rgE _ _
def c15_43 : EC := .sq c15_42 .rt
@[simp] theorem c15_43e : Sq c15_43 c15_42 .rt := sqE _ _
def c15_44 : EC := .cd (t 127) c15_43 .skip
@[simp] theorem c15_44e : Cd c15_44 (t 127) c15_43 .skip := cdE _ _ _
def c15_45 : EC := .sq c15_41 c15_44
@[simp] theorem c15_45e : Sq c15_45 c15_41 c15_44 := sqE _ _
def c15_46 : EC := .bk 3 c15_45
@[simp] theorem c15_46e : Bk c15_46 3 c15_45 := bkE _ _
@[simp] def c15_47l : List EO := [m 120 21,
 o 121 (.bin .add) [t 120, i 1],
 m 21 121]
def c15_47 : EC := .rg c15_47l false
@[simp] theorem c15_47e : Rg c15_47 c15_47l false := rgE _ _
def c15_48 : EC := .sq c15_46 c15_47
@[simp] theorem c15_48e : Sq c15_48 c15_46 c15_47 := sqE _ _
def c15_49 : EC := .sq c15_40 c15_48
@[simp] theorem c15_49e : Sq c15_49 c15_40 c15_48 := sqE _ _
def c15_50 : EC := .bk 2 (.lp c15_49)
@[simp] theorem c15_50e : Bk c15_50 2 (.lp c15_49) := bkE _ _
def c15_51 : EC := .sq c15_37 c15_50
@[simp] theorem c15_51e : Sq c15_51 c15_37 c15_50 := sqE _ _
@[simp] def c15_52l : List EO := [o 129 (.load 16 true) [t 18],
 u (.store 16) [t 8, t 129],
 o 9 .mv [i 0]]
def c15_52 : EC := .rg c15_52l false
@[simp] theorem c15_52e : Rg c15_52 c15_52l false := rgE _ _
def c15_53 : EC := .sq c15_52 .rt
@[simp] theorem c15_53e : Sq c15_53 c15_52 .rt := sqE _ _
def c15_54 : EC := .sq c15_51 c15_53
@[simp] theorem c15_54e : Sq c15_54 c15_51 c15_53 := sqE _ _
def c15_55 : EC := .sq c15_36 c15_54
@[simp] theorem c15_55e : Sq c15_55 c15_36 c15_54 := sqE _ _
def c15_56 : EC := .sq c15_23 c15_55
@[simp] theorem c15_56e : Sq c15_56 c15_23 c15_55 := sqE _ _
def c15_57 : EC := .sq c15_22 c15_56
@[simp] theorem c15_57e : Sq c15_57 c15_22 c15_56 := sqE _ _
def c15_58 : EC := .sq c15_21 c15_57
@[simp] theorem c15_58e : Sq c15_58 c15_21 c15_57 := sqE _ _
def c15_59 : EC := .sq c15_20 c15_58
@[simp] theorem c15_59e : Sq c15_59 c15_20 c15_58 := sqE _ _
def c15_60 : EC := .sq c15_19 c15_59
@[simp] theorem c15_60e : Sq c15_60 c15_19 c15_59 := sqE _ _
def c15_61 : EC := .sq c15_12 c15_60
@[simp] theorem c15_61e : Sq c15_61 c15_12 c15_60 := sqE _ _
def c15_62 : EC := .sq c15_11 c15_61
@[simp] theorem c15_62e : Sq c15_62 c15_11 c15_61 := sqE _ _
def c15_63 : EC := .sq c15_6 c15_62
@[simp] theorem c15_63e : Sq c15_63 c15_6 c15_62 := sqE _ _
def c15_64 : EC := .sq c15_5 c15_63
@[simp] theorem c15_64e : Sq c15_64 c15_5 c15_63 := sqE _ _
def c15_65 : EC := .sq c15_0 c15_64
@[simp] theorem c15_65e : Sq c15_65 c15_0 c15_64 := sqE _ _
def c_tallystoneref52_Make_15 : EC := c15_65
theorem k_15 : ecF Try.prog 15 = some (130, c_tallystoneref52_Make_15, [.ce 8 16 true, .tm 9]) := by kernel_rfl

/-- tallystone/tallystoneref52.Make, with slices that grow in boxes -/
@[simp] def b15_0l : List EO := [o 4 .box [t 0],
 o 5 .box [t 1],
 o 6 .box [t 2],
 o 8 (.alloc [.t (.int .i64 0), .t (.int .i64 0), .t (.int .i64 0), .t (.int .i64 0), .t (.int .i64 0), .t (.int .i64 0), .t (.int .i64 0), .t (.int .i64 0), .t (.int .i64 0), .t (.int .i64 0), .t (.int .i64 0), .t (.int .i64 0), .t (.int .i64 0), .t (.int .i64 0), .t (.int .i64 0), .t (.int .i64 0)]) [],
 o 9 .mv [i 0]]
def b15_0 : EC := .rg b15_0l false
@[simp] theorem b15_0e : Rg b15_0 b15_0l false := rgE _ _
@[simp] def b15_1l : List EO := [o 22 (.load 21 true) [t 4],
 o 23 (.call 18) [t 22],
 o 24 (.un .not) [t 23]]
def b15_1 : EC := .rg b15_1l false
@[simp] theorem b15_1e : Rg b15_1 b15_1l false := rgE _ _
@[simp] def b15_2l : List EO := [o 25 (.build [.t (.int .i64 0), .t (.int .i64 0), .t (.int .i64 0), .t (.int .i64 0), .t (.int .i64 0), .t (.int .i64 0), .t (.int .i64 0), .t (.int .i64 0), .t (.int .i64 0), .t (.int .i64 0), .t (.int .i64 0), .t (.int .i64 0), .t (.int .i64 0), .t (.int .i64 0), .t (.int .i64 0), .t (.int .i64 0)] []) [],
 u (.store 16) [t 8, t 25],
 o 9 .mv [i 1]]
def b15_2 : EC := .rg b15_2l false
@[simp] theorem b15_2e : Rg b15_2 b15_2l false := rgE _ _
def b15_3 : EC := .sq b15_2 .rt
@[simp] theorem b15_3e : Sq b15_3 b15_2 .rt := sqE _ _
def b15_4 : EC := .cd (t 24) b15_3 .skip
@[simp] theorem b15_4e : Cd b15_4 (t 24) b15_3 .skip := cdE _ _ _
def b15_5 : EC := .sq b15_1 b15_4
@[simp] theorem b15_5e : Sq b15_5 b15_1 b15_4 := sqE _ _
@[simp] def b15_6l : List EO := [o 27 (.faddr 1) [t 4],
 o 28 (.load 3 true) [t 27],
 o 29 (.faddr 0) [t 6],
 o 30 (.load 1 false) [t 29],
 o 31 (.call 19) [t 28, t 30],
 m 26 31,
 o 32 (.ext 0) [t 26],
 o 33 (.ext 1) [t 26],
 m 10 32,
 m 11 33]
def b15_6 : EC := .rg b15_6l false
@[simp] theorem b15_6e : Rg b15_6 b15_6l false := rgE _ _
@[simp] def b15_7l : List EO := [m 34 11,
 o 35 (.bin .neq) [t 34, i 0]]
def b15_7 : EC := .rg b15_7l false
@[simp] theorem b15_7e : Rg b15_7 b15_7l false := rgE _ _
@[simp] def b15_8l : List EO := [o 36 (.build [.t (.int .i64 0), .t (.int .i64 0), .t (.int .i64 0), .t (.int .i64 0), .t (.int .i64 0), .t (.int .i64 0), .t (.int .i64 0), .t (.int .i64 0), .t (.int .i64 0), .t (.int .i64 0), .t (.int .i64 0), .t (.int .i64 0), .t (.int .i64 0), .t (.int .i64 0), .t (.int .i64 0), .t (.int .i64 0)] []) [],
 u (.store 16) [t 8, t 36],
 o 9 .mv [i 2]]
def b15_8 : EC := .rg b15_8l false
@[simp] theorem b15_8e : Rg b15_8 b15_8l false := rgE _ _
def b15_9 : EC := .sq b15_8 .rt
@[simp] theorem b15_9e : Sq b15_9 b15_8 .rt := sqE _ _
def b15_10 : EC := .cd (t 35) b15_9 .skip
@[simp] theorem b15_10e : Cd b15_10 (t 35) b15_9 .skip := cdE _ _ _
def b15_11 : EC := .sq b15_7 b15_10
@[simp] theorem b15_11e : Sq b15_11 b15_7 b15_10 := sqE _ _
@[simp] def b15_12l : List EO := [o 38 (.faddr 1) [t 4],
 o 39 (.load 3 true) [t 38],
 o 40 (.faddr 0) [t 6],
 o 41 (.load 1 false) [t 40],
 o 42 (.call 20) [t 39, t 41],
 m 37 42,
 o 43 (.ext 0) [t 37],
 o 44 (.ext 1) [t 37],
 m 12 43,
 m 13 44]
def b15_12 : EC := .rg b15_12l false
@[simp] theorem b15_12e : Rg b15_12 b15_12l false := rgE _ _
@[simp] def b15_13l : List EO := [o 46 (.load 21 true) [t 4],
 m 47 3,
 o 48 (.call 26) [t 46, t 47],
 m 45 48,
 o 49 (.ext 0) [t 45],
 o 50 (.ext 1) [t 45],
 o 14 (.alloc [.t (.int .i64 0), .t (.int .i64 0), .t (.int .i64 0), .t (.int .i64 0)]) [],
 u (.store 4) [t 14, t 49],
 m 15 50]
def b15_13 : EC := .rg b15_13l false
@[simp] theorem b15_13e : Rg b15_13 b15_13l false := rgE _ _
@[simp] def b15_14l : List EO := [m 51 15,
 o 52 (.un .not) [t 51]]
def b15_14 : EC := .rg b15_14l false
@[simp] theorem b15_14e : Rg b15_14 b15_14l false := rgE _ _
@[simp] def b15_15l : List EO := [o 53 (.build [.t (.int .i64 0), .t (.int .i64 0), .t (.int .i64 0), .t (.int .i64 0), .t (.int .i64 0), .t (.int .i64 0), .t (.int .i64 0), .t (.int .i64 0), .t (.int .i64 0), .t (.int .i64 0), .t (.int .i64 0), .t (.int .i64 0), .t (.int .i64 0), .t (.int .i64 0), .t (.int .i64 0), .t (.int .i64 0)] []) [],
 u (.store 16) [t 8, t 53],
 o 9 .mv [i 8]]
def b15_15 : EC := .rg b15_15l false
@[simp] theorem b15_15e : Rg b15_15 b15_15l false := rgE _ _
def b15_16 : EC := .sq b15_15 .rt
@[simp] theorem b15_16e : Sq b15_16 b15_15 .rt := sqE _ _
def b15_17 : EC := .cd (t 52) b15_16 .skip
@[simp] theorem b15_17e : Cd b15_17 (t 52) b15_16 .skip := cdE _ _ _
def b15_18 : EC := .sq b15_14 b15_17
@[simp] theorem b15_18e : Sq b15_18 b15_14 b15_17 := sqE _ _
def b15_19 : EC := .sq b15_13 b15_18
@[simp] theorem b15_19e : Sq b15_19 b15_13 b15_18 := sqE _ _
@[simp] def b15_20l : List EO := [o 54 (.load 4 true) [t 5],
 m 55 3,
 o 56 (.call 39) [t 54, t 55, i (-9223372036854775808), i 9223372036854775807],
 o 57 (.load 4 true) [t 6],
 m 58 3,
 o 59 (.call 39) [t 57, t 58, i (-9223372036854775808), i 9223372036854775807],
 m 16 56,
 m 17 59]
def b15_20 : EC := .rg b15_20l true
@[simp] theorem b15_20e : Rg b15_20 b15_20l true := rgE _ _
@[simp] def b15_21l : List EO := [m 60 3,
 m 61 16,
 o 62 (.load 4 true) [t 5],
 m 63 3,
 o 64 (.call 40) [t 62, t 63, i (-1)],
 o 65 (.bin .add) [t 61, t 64],
 o 66 (.load 4 true) [t 6],
 m 67 3,
 m 68 10,
 m 69 12,
 o 70 (.call 39) [t 66, t 67, t 68, t 69],
 m 71 17,
 o 72 (.load 4 true) [t 6],
 m 73 3,
 o 74 (.call 40) [t 72, t 73, i (-1)],
 o 75 (.bin .add) [t 71, t 74],
 o 76 (.build [.t (.int .i64 0), .t (.int .i64 0), .t (.int .i64 0), .t (.int .i64 0), .t (.int .i64 0), .t (.int .i64 0), .t (.int .i64 0), .t (.int .i64 0), .t (.int .i64 0), .t (.int .i64 0), .t (.int .i64 0), .t (.int .i64 0), .t (.int .i64 0), .t (.int .i64 0), .t (.int .i64 0), .t (.int .i64 0)] [(0, 1), (1, 1), (2, 1), (4, 1)]) [t 60, t 65, t 70, t 75],
 o 18 (.alloc [.t (.int .i64 0), .t (.int .i64 0), .t (.int .i64 0), .t (.int .i64 0), .t (.int .i64 0), .t (.int .i64 0), .t (.int .i64 0), .t (.int .i64 0), .t (.int .i64 0), .t (.int .i64 0), .t (.int .i64 0), .t (.int .i64 0), .t (.int .i64 0), .t (.int .i64 0), .t (.int .i64 0), .t (.int .i64 0)]) [],
 u (.store 16) [t 18, t 76]]
def b15_21 : EC := .rg b15_21l true
@[simp] theorem b15_21e : Rg b15_21 b15_21l true := rgE _ _
@[simp] def b15_22l : List EO := [m 77 17,
 o 78 (.faddr 2) [t 18],
 o 79 (.load 1 false) [t 78],
 o 80 (.bin .sub) [t 77, t 79],
 m 81 16,
 o 82 (.bin .sub) [t 80, t 81],
 o 83 (.faddr 3) [t 18],
 u (.store 1) [t 83, t 82]]
def b15_22 : EC := .rg b15_22l false
@[simp] theorem b15_22e : Rg b15_22 b15_22l false := rgE _ _
@[simp] def b15_23l : List EO := [o 84 (.faddr 1) [t 18],
 o 85 (.load 1 false) [t 84],
 o 86 (.faddr 2) [t 18],
 o 87 (.load 1 false) [t 86],
 o 88 (.faddr 3) [t 18],
 o 89 (.load 1 false) [t 88],
 o 90 (.faddr 4) [t 18],
 o 91 (.load 1 false) [t 90],
 o 92 (.bsl 1) [t 85, t 87, t 89, t 91],
 m 19 92]
def b15_23 : EC := .rg b15_23l false
@[simp] theorem b15_23e : Rg b15_23 b15_23l false := rgE _ _
@[simp] def b15_24l : List EO := [o 20 .mv [i 1]]
def b15_24 : EC := .rg b15_24l false
@[simp] theorem b15_24e : Rg b15_24 b15_24l false := rgE _ _
@[simp] def b15_25l : List EO := [m 93 20,
 o 94 (.bin .leq) [t 93, i 10]]
def b15_25 : EC := .rg b15_25l false
@[simp] theorem b15_25e : Rg b15_25 b15_25l false := rgE _ _
def b15_26 : EC := .cd (t 94) .skip (.ex 0)
@[simp] theorem b15_26e : Cd b15_26 (t 94) .skip (.ex 0) := cdE _ _ _
def b15_27 : EC := .sq b15_25 b15_26
@[simp] theorem b15_27e : Sq b15_27 b15_25 b15_26 := sqE _ _
@[simp] def b15_28l : List EO := [m 97 20,
 o 98 (.load 4 true) [t 6],
 m 99 3,
 m 100 20,
 o 101 (.call 40) [t 98, t 99, t 100],
 o 102 (.load 4 true) [t 5],
 m 103 3,
 m 104 20,
 o 105 (.call 40) [t 102, t 103, t 104],
 o 106 (.bin .sub) [t 101, t 105],
 o 107 (.faddr 5) [t 18],
 o 108 (.iaA 11 1) [t 107, t 97],
 u (.store 1) [t 108, t 106]]
def b15_28 : EC := .rg b15_28l true
@[simp] theorem b15_28e : Rg b15_28 b15_28l true := rgE _ _
@[simp] def b15_29l : List EO := [m 109 19,
 m 110 20,
 o 111 (.faddr 5) [t 18],
 o 112 (.iaA 11 1) [t 111, t 110],
 o 113 (.load 1 false) [t 112],
 o 114 (.bsl 1) [t 113],
 o 115 (.appB 3 1 8) [t 109, t 114],
 m 19 115]
def b15_29 : EC := .rg b15_29l false
@[simp] theorem b15_29e : Rg b15_29 b15_29l false := rgE _ _
def b15_30 : EC := .sq b15_28 b15_29
@[simp] theorem b15_30e : Sq b15_30 b15_28 b15_29 := sqE _ _
def b15_31 : EC := .bk 1 b15_30
@[simp] theorem b15_31e : Bk b15_31 1 b15_30 := bkE _ _
@[simp] def b15_32l : List EO := [m 95 20,
 o 96 (.bin .add) [t 95, i 1],
 m 20 96]
def b15_32 : EC := .rg b15_32l false
@[simp] theorem b15_32e : Rg b15_32 b15_32l false := rgE _ _
def b15_33 : EC := .sq b15_31 b15_32
@[simp] theorem b15_33e : Sq b15_33 b15_31 b15_32 := sqE _ _
def b15_34 : EC := .sq b15_27 b15_33
@[simp] theorem b15_34e : Sq b15_34 b15_27 b15_33 := sqE _ _
def b15_35 : EC := .bk 0 (.lp b15_34)
@[simp] theorem b15_35e : Bk b15_35 0 (.lp b15_34) := bkE _ _
def b15_36 : EC := .sq b15_24 b15_35
@[simp] theorem b15_36e : Sq b15_36 b15_24 b15_35 := sqE _ _
@[simp] def b15_37l : List EO := [o 21 .mv [i 0]]
def b15_37 : EC := .rg b15_37l false
@[simp] theorem b15_37e : Rg b15_37 b15_37l false := rgE _ _
@[simp] def b15_38l : List EO := [m 116 21,
 m 117 19,
 o 118 .lenL [t 117],
 o 119 (.bin .lss) [t 116, t 118]]
def b15_38 : EC := .rg b15_38l false
@[simp] theorem b15_38e : Rg b15_38 b15_38l false := rgE _ _
def b15_39 : EC := .cd (t 119) .skip (.ex 2)
@[simp] theorem b15_39e : Cd b15_39 (t 119) .skip (.ex 2) := cdE _ _ _
def b15_40 : EC := .sq b15_38 b15_39
@[simp] theorem b15_40e : Sq b15_40 b15_38 b15_39 := sqE _ _
@[simp] def b15_41l : List EO := [m 122 19,
 m 123 21,
 o 124 (.iaS 1) [t 122, t 123],
 o 125 (.load 1 false) [t 124],
 o 126 (.call 41) [t 125],
 o 127 (.un .not) [t 126]]
def b15_41 : EC := .rg b15_41l false
@[simp] theorem b15_41e : Rg b15_41 b15_41l false := rgE _ _
@[simp] def b15_42l : List EO := [o 128 (.build [.t (.int .i64 0), .t (.int .i64 0), .t (.int .i64 0), .t (.int .i64 0), .t (.int .i64 0), .t (.int .i64 0), .t (.int .i64 0), .t (.int .i64 0), .t (.int .i64 0), .t (.int .i64 0), .t (.int .i64 0), .t (.int .i64 0), .t (.int .i64 0), .t (.int .i64 0), .t (.int .i64 0), .t (.int .i64 0)] []) [],
 u (.store 16) [t 8, t 128],
 o 9 .mv [i 2]]
def b15_42 : EC := .rg b15_42l false
@[simp] theorem b15_42e : Rg b15_42 b15_42l false := rgE _ _
def b15_43 : EC := .sq b15_42 .rt
@[simp] theorem b15_43e : Sq b15_43 b15_42 .rt := sqE _ _
def b15_44 : EC := .cd (t 127) b15_43 .skip
@[simp] theorem b15_44e : Cd b15_44 (t 127) b15_43 .skip := cdE _ _ _
def b15_45 : EC := .sq b15_41 b15_44
@[simp] theorem b15_45e : Sq b15_45 b15_41 b15_44 := sqE _ _
def b15_46 : EC := .bk 3 b15_45
@[simp] theorem b15_46e : Bk b15_46 3 b15_45 := bkE _ _
@[simp] def b15_47l : List EO := [m 120 21,
 o 121 (.bin .add) [t 120, i 1],
 m 21 121]
def b15_47 : EC := .rg b15_47l false
@[simp] theorem b15_47e : Rg b15_47 b15_47l false := rgE _ _
def b15_48 : EC := .sq b15_46 b15_47
@[simp] theorem b15_48e : Sq b15_48 b15_46 b15_47 := sqE _ _
def b15_49 : EC := .sq b15_40 b15_48
@[simp] theorem b15_49e : Sq b15_49 b15_40 b15_48 := sqE _ _
def b15_50 : EC := .bk 2 (.lp b15_49)
@[simp] theorem b15_50e : Bk b15_50 2 (.lp b15_49) := bkE _ _
def b15_51 : EC := .sq b15_37 b15_50
@[simp] theorem b15_51e : Sq b15_51 b15_37 b15_50 := sqE _ _
@[simp] def b15_52l : List EO := [o 129 (.load 16 true) [t 18],
 u (.store 16) [t 8, t 129],
 o 9 .mv [i 0]]
def b15_52 : EC := .rg b15_52l false
@[simp] theorem b15_52e : Rg b15_52 b15_52l false := rgE _ _
def b15_53 : EC := .sq b15_52 .rt
@[simp] theorem b15_53e : Sq b15_53 b15_52 .rt := sqE _ _
def b15_54 : EC := .sq b15_51 b15_53
@[simp] theorem b15_54e : Sq b15_54 b15_51 b15_53 := sqE _ _
def b15_55 : EC := .sq b15_36 b15_54
@[simp] theorem b15_55e : Sq b15_55 b15_36 b15_54 := sqE _ _
def b15_56 : EC := .sq b15_23 b15_55
@[simp] theorem b15_56e : Sq b15_56 b15_23 b15_55 := sqE _ _
def b15_57 : EC := .sq b15_22 b15_56
@[simp] theorem b15_57e : Sq b15_57 b15_22 b15_56 := sqE _ _
def b15_58 : EC := .sq b15_21 b15_57
@[simp] theorem b15_58e : Sq b15_58 b15_21 b15_57 := sqE _ _
def b15_59 : EC := .sq b15_20 b15_58
@[simp] theorem b15_59e : Sq b15_59 b15_20 b15_58 := sqE _ _
def b15_60 : EC := .sq b15_19 b15_59
@[simp] theorem b15_60e : Sq b15_60 b15_19 b15_59 := sqE _ _
def b15_61 : EC := .sq b15_12 b15_60
@[simp] theorem b15_61e : Sq b15_61 b15_12 b15_60 := sqE _ _
def b15_62 : EC := .sq b15_11 b15_61
@[simp] theorem b15_62e : Sq b15_62 b15_11 b15_61 := sqE _ _
def b15_63 : EC := .sq b15_6 b15_62
@[simp] theorem b15_63e : Sq b15_63 b15_6 b15_62 := sqE _ _
def b15_64 : EC := .sq b15_5 b15_63
@[simp] theorem b15_64e : Sq b15_64 b15_5 b15_63 := sqE _ _
def b15_65 : EC := .sq b15_0 b15_64
@[simp] theorem b15_65e : Sq b15_65 b15_0 b15_64 := sqE _ _
def b_tallystoneref52_Make_15 : EC := b15_65
theorem kb_15 : ecB Try.prog 15 = some (130, b_tallystoneref52_Make_15, [.ce 8 16 true, .tm 9]) := by kernel_rfl

/-- tallystone/note.Sum -/
@[simp] def c16_0l : List EO := [o 1 .box [t 0],
 o 2 .mv [i 0]]
def c16_0 : EC := .rg c16_0l false
@[simp] theorem c16_0e : Rg c16_0 c16_0l false := rgE _ _
@[simp] def c16_1l : List EO := [o 3 .mv [i 0]]
def c16_1 : EC := .rg c16_1l false
@[simp] theorem c16_1e : Rg c16_1 c16_1l false := rgE _ _
@[simp] def c16_2l : List EO := [o 6 (.faddr 5) [t 1],
 o 7 (.load 11 true) [t 6],
 o 8 .mv [i 0]]
def c16_2 : EC := .rg c16_2l false
@[simp] theorem c16_2e : Rg c16_2 c16_2l false := rgE _ _
@[simp] def c16_3l : List EO := [o 9 (.bin .lss) [t 8, i 11]]
def c16_3 : EC := .rg c16_3l false
@[simp] theorem c16_3e : Rg c16_3 c16_3l false := rgE _ _
def c16_4 : EC := .cd (t 9) .skip (.ex 0)
@[simp] theorem c16_4e : Cd c16_4 (t 9) .skip (.ex 0) := cdE _ _ _
@[simp] def c16_5l : List EO := [o 10 (.ixA 11 1 1 false) [t 7, t 8],
 m 5 10]
def c16_5 : EC := .rg c16_5l false
@[simp] theorem c16_5e : Rg c16_5 c16_5l false := rgE _ _
@[simp] def c16_6l : List EO := [m 11 3,
 m 12 5,
 o 13 (.bin .add) [t 11, t 12],
 m 3 13]
def c16_6 : EC := .rg c16_6l false
@[simp] theorem c16_6e : Rg c16_6 c16_6l false := rgE _ _
def c16_7 : EC := .sq c16_5 c16_6
@[simp] theorem c16_7e : Sq c16_7 c16_5 c16_6 := sqE _ _
def c16_8 : EC := .bk 1 c16_7
@[simp] theorem c16_8e : Bk c16_8 1 c16_7 := bkE _ _
@[simp] def c16_9l : List EO := [o 14 (.bin .add) [t 8, i 1],
 m 8 14]
def c16_9 : EC := .rg c16_9l false
@[simp] theorem c16_9e : Rg c16_9 c16_9l false := rgE _ _
def c16_10 : EC := .sq c16_8 c16_9
@[simp] theorem c16_10e : Sq c16_10 c16_8 c16_9 := sqE _ _
def c16_11 : EC := .sq c16_4 c16_10
@[simp] theorem c16_11e : Sq c16_11 c16_4 c16_10 := sqE _ _
def c16_12 : EC := .sq c16_3 c16_11
@[simp] theorem c16_12e : Sq c16_12 c16_3 c16_11 := sqE _ _
def c16_13 : EC := .bk 0 (.lp c16_12)
@[simp] theorem c16_13e : Bk c16_13 0 (.lp c16_12) := bkE _ _
def c16_14 : EC := .sq c16_2 c16_13
@[simp] theorem c16_14e : Sq c16_14 c16_2 c16_13 := sqE _ _
@[simp] def c16_15l : List EO := [m 15 3,
 m 2 15]
def c16_15 : EC := .rg c16_15l false
@[simp] theorem c16_15e : Rg c16_15 c16_15l false := rgE _ _
def c16_16 : EC := .sq c16_15 .rt
@[simp] theorem c16_16e : Sq c16_16 c16_15 .rt := sqE _ _
def c16_17 : EC := .sq c16_14 c16_16
@[simp] theorem c16_17e : Sq c16_17 c16_14 c16_16 := sqE _ _
def c16_18 : EC := .sq c16_1 c16_17
@[simp] theorem c16_18e : Sq c16_18 c16_1 c16_17 := sqE _ _
def c16_19 : EC := .sq c16_0 c16_18
@[simp] theorem c16_19e : Sq c16_19 c16_0 c16_18 := sqE _ _
def c_note_Sum_16 : EC := c16_19
theorem k_16 : ecF Try.prog 16 = some (16, c_note_Sum_16, [.tm 2]) := by kernel_rfl

/-- tallystone/tallystoneref52.Sum -/
@[simp] def c17_0l : List EO := [o 1 .box [t 0],
 o 2 .mv [i 0]]
def c17_0 : EC := .rg c17_0l false
@[simp] theorem c17_0e : Rg c17_0 c17_0l false := rgE _ _
@[simp] def c17_1l : List EO := [o 3 .mv [i 0]]
def c17_1 : EC := .rg c17_1l false
@[simp] theorem c17_1e : Rg c17_1 c17_1l false := rgE _ _
@[simp] def c17_2l : List EO := [o 4 .mv [i 0]]
def c17_2 : EC := .rg c17_2l false
@[simp] theorem c17_2e : Rg c17_2 c17_2l false := rgE _ _
@[simp] def c17_3l : List EO := [m 5 4,
 o 6 (.bin .lss) [t 5, i 11]]
def c17_3 : EC := .rg c17_3l false
@[simp] theorem c17_3e : Rg c17_3 c17_3l false := rgE _ _
def c17_4 : EC := .cd (t 6) .skip (.ex 0)
@[simp] theorem c17_4e : Cd c17_4 (t 6) .skip (.ex 0) := cdE _ _ _
def c17_5 : EC := .sq c17_3 c17_4
@[simp] theorem c17_5e : Sq c17_5 c17_3 c17_4 := sqE _ _
@[simp] def c17_6l : List EO := [m 9 3,
 m 10 4,
 o 11 (.faddr 5) [t 1],
 o 12 (.iaA 11 1) [t 11, t 10],
 o 13 (.load 1 false) [t 12],
 o 14 (.bin .add) [t 9, t 13],
 m 3 14]
def c17_6 : EC := .rg c17_6l false
@[simp] theorem c17_6e : Rg c17_6 c17_6l false := rgE _ _
def c17_7 : EC := .bk 1 c17_6
@[simp] theorem c17_7e : Bk c17_7 1 c17_6 := bkE _ _
@[simp] def c17_8l : List EO := [m 7 4,
 o 8 (.bin .add) [t 7, i 1],
 m 4 8]
def c17_8 : EC := .rg c17_8l false
@[simp] theorem c17_8e : Rg c17_8 c17_8l false := rgE _ _
def c17_9 : EC := .sq c17_7 c17_8
@[simp] theorem c17_9e : Sq c17_9 c17_7 c17_8 := sqE _ _
def c17_10 : EC := .sq c17_5 c17_9
@[simp] theorem c17_10e : Sq c17_10 c17_5 c17_9 := sqE _ _
def c17_11 : EC := .bk 0 (.lp c17_10)
@[simp] theorem c17_11e : Bk c17_11 0 (.lp c17_10) := bkE _ _
def c17_12 : EC := .sq c17_2 c17_11
@[simp] theorem c17_12e : Sq c17_12 c17_2 c17_11 := sqE _ _
@[simp] def c17_13l : List EO := [m 15 3,
 m 2 15]
def c17_13 : EC := .rg c17_13l false
@[simp] theorem c17_13e : Rg c17_13 c17_13l false := rgE _ _
def c17_14 : EC := .sq c17_13 .rt
@[simp] theorem c17_14e : Sq c17_14 c17_13 .rt := sqE _ _
def c17_15 : EC := .sq c17_12 c17_14
@[simp] theorem c17_15e : Sq c17_15 c17_12 c17_14 := sqE _ _
def c17_16 : EC := .sq c17_1 c17_15
@[simp] theorem c17_16e : Sq c17_16 c17_1 c17_15 := sqE _ _
def c17_17 : EC := .sq c17_0 c17_16
@[simp] theorem c17_17e : Sq c17_17 c17_0 c17_16 := sqE _ _
def c_tallystoneref52_Sum_17 : EC := c17_17
theorem k_17 : ecF Try.prog 17 = some (16, c_tallystoneref52_Sum_17, [.tm 2]) := by kernel_rfl

/-- tallystone/tallystoneref10.Valid -/
@[simp] def c18_0l : List EO := [o 1 .box [t 0],
 o 2 .mv [b false]]
def c18_0 : EC := .rg c18_0l false
@[simp] theorem c18_0e : Rg c18_0 c18_0l false := rgE _ _
@[simp] def c18_1l : List EO := [o 6 (.load 21 true) [t 1],
 o 7 (.call 42) [t 6],
 o 8 (.un .not) [t 7],
 m 9 8,
 n 10 9 (.faddr 20) [t 1],
 n 11 9 (.load 1 false) [t 10],
 n 12 9 .lenL [t 11],
 n 13 9 (.bin .lss) [t 12, i 1],
 o 14 .pick [t 9, b true, t 13],
 m 15 14,
 n 16 15 (.faddr 20) [t 1],
 n 17 15 (.load 1 false) [t 16],
 n 18 15 .lenL [t 17],
 n 19 15 (.bin .gtr) [t 18, i 12],
 o 20 .pick [t 15, b true, t 19],
 m 21 20,
 n 22 21 (.faddr 20) [t 1],
 n 23 21 (.load 1 false) [t 22],
 n 24 21 (.iaS 5) [t 23, i 0],
 n 25 21 (.faddr 4) [t 24],
 n 26 21 (.load 1 false) [t 25],
 o 27 .pick [t 21, b true, t 26]]
def c18_1 : EC := .rg c18_1l false
@[simp] theorem c18_1e : Rg c18_1 c18_1l false := rgE _ _
@[simp] def c18_2l : List EO := [o 2 .mv [b false]]
def c18_2 : EC := .rg c18_2l false
@[simp] theorem c18_2e : Rg c18_2 c18_2l false := rgE _ _
def c18_3 : EC := .sq c18_2 .rt
@[simp] theorem c18_3e : Sq c18_3 c18_2 .rt := sqE _ _
def c18_4 : EC := .cd (t 27) c18_3 .skip
@[simp] theorem c18_4e : Cd c18_4 (t 27) c18_3 .skip := cdE _ _ _
def c18_5 : EC := .sq c18_1 c18_4
@[simp] theorem c18_5e : Sq c18_5 c18_1 c18_4 := sqE _ _
@[simp] def c18_6l : List EO := [o 3 .mv [i 0]]
def c18_6 : EC := .rg c18_6l false
@[simp] theorem c18_6e : Rg c18_6 c18_6l false := rgE _ _
@[simp] def c18_7l : List EO := [m 28 3,
 o 29 (.faddr 20) [t 1],
 o 30 (.load 1 false) [t 29],
 o 31 .lenL [t 30],
 o 32 (.bin .lss) [t 28, t 31]]
def c18_7 : EC := .rg c18_7l false
@[simp] theorem c18_7e : Rg c18_7 c18_7l false := rgE _ _
def c18_8 : EC := .cd (t 32) .skip (.ex 0)
@[simp] theorem c18_8e : Cd c18_8 (t 32) .skip (.ex 0) := cdE _ _ _
def c18_9 : EC := .sq c18_7 c18_8
@[simp] theorem c18_9e : Sq c18_9 c18_7 c18_8 := sqE _ _
@[simp] def c18_10l : List EO := [o 36 (.load 21 true) [t 1],
 o 37 (.faddr 20) [t 1],
 o 38 (.load 1 false) [t 37],
 m 39 3,
 o 40 (.iaS 5) [t 38, t 39],
 o 41 (.faddr 0) [t 40],
 o 42 (.load 1 false) [t 41],
 o 43 (.call 43) [t 36, t 42],
 m 35 43,
 o 44 (.ext 0) [t 35],
 o 45 (.ext 1) [t 35],
 m 4 44,
 m 5 45]
def c18_10 : EC := .rg c18_10l true
@[simp] theorem c18_10e : Rg c18_10 c18_10l true := rgE _ _
@[simp] def c18_11l : List EO := [m 46 4,
 m 47 3,
 o 48 (.bin .neq) [t 46, t 47],
 m 49 48,
 n 50 49 (.load 21 true) [t 1],
 n 51 49 (.faddr 20) [t 1],
 n 52 49 (.load 1 false) [t 51],
 n 53 49 .mv [t 3],
 n 54 49 (.iaS 5) [t 52, t 53],
 n 55 49 (.load 5 true) [t 54],
 n 56 49 (.call 44) [t 50, t 55],
 n 57 49 (.un .not) [t 56],
 o 58 .pick [t 49, b true, t 57]]
def c18_11 : EC := .rg c18_11l true
@[simp] theorem c18_11e : Rg c18_11 c18_11l true := rgE _ _
@[simp] def c18_12l : List EO := [o 2 .mv [b false]]
def c18_12 : EC := .rg c18_12l false
@[simp] theorem c18_12e : Rg c18_12 c18_12l false := rgE _ _
def c18_13 : EC := .sq c18_12 .rt
@[simp] theorem c18_13e : Sq c18_13 c18_12 .rt := sqE _ _
def c18_14 : EC := .cd (t 58) c18_13 .skip
@[simp] theorem c18_14e : Cd c18_14 (t 58) c18_13 .skip := cdE _ _ _
def c18_15 : EC := .sq c18_11 c18_14
@[simp] theorem c18_15e : Sq c18_15 c18_11 c18_14 := sqE _ _
def c18_16 : EC := .sq c18_10 c18_15
@[simp] theorem c18_16e : Sq c18_16 c18_10 c18_15 := sqE _ _
def c18_17 : EC := .bk 1 c18_16
@[simp] theorem c18_17e : Bk c18_17 1 c18_16 := bkE _ _
@[simp] def c18_18l : List EO := [m 33 3,
 o 34 (.bin .add) [t 33, i 1],
 m 3 34]
def c18_18 : EC := .rg c18_18l false
@[simp] theorem c18_18e : Rg c18_18 c18_18l false := rgE _ _
def c18_19 : EC := .sq c18_17 c18_18
@[simp] theorem c18_19e : Sq c18_19 c18_17 c18_18 := sqE _ _
def c18_20 : EC := .sq c18_9 c18_19
@[simp] theorem c18_20e : Sq c18_20 c18_9 c18_19 := sqE _ _
def c18_21 : EC := .bk 0 (.lp c18_20)
@[simp] theorem c18_21e : Bk c18_21 0 (.lp c18_20) := bkE _ _
def c18_22 : EC := .sq c18_6 c18_21
@[simp] theorem c18_22e : Sq c18_22 c18_6 c18_21 := sqE _ _
@[simp] def c18_23l : List EO := [o 2 .mv [b true]]
def c18_23 : EC := .rg c18_23l false
@[simp] theorem c18_23e : Rg c18_23 c18_23l false := rgE _ _
def c18_24 : EC := .sq c18_23 .rt
@[simp] theorem c18_24e : Sq c18_24 c18_23 .rt := sqE _ _
def c18_25 : EC := .sq c18_22 c18_24
@[simp] theorem c18_25e : Sq c18_25 c18_22 c18_24 := sqE _ _
def c18_26 : EC := .sq c18_5 c18_25
@[simp] theorem c18_26e : Sq c18_26 c18_5 c18_25 := sqE _ _
def c18_27 : EC := .sq c18_0 c18_26
@[simp] theorem c18_27e : Sq c18_27 c18_0 c18_26 := sqE _ _
def c_tallystoneref10_Valid_18 : EC := c18_27
theorem k_18 : ecF Try.prog 18 = some (59, c_tallystoneref10_Valid_18, [.tm 2]) := by kernel_rfl

/-- tallystone/tallystoneref07.First -/
@[simp] def c19_0l : List EO := [o 2 .box [t 0],
 o 4 .mv [i 0],
 o 5 .mv [i 0]]
def c19_0 : EC := .rg c19_0l false
@[simp] theorem c19_0e : Rg c19_0 c19_0l false := rgE _ _
@[simp] def c19_1l : List EO := [o 7 (.load 3 true) [t 2],
 m 8 1,
 o 9 (.call 45) [t 7, t 8],
 m 6 9]
def c19_1 : EC := .rg c19_1l false
@[simp] theorem c19_1e : Rg c19_1 c19_1l false := rgE _ _
@[simp] def c19_2l : List EO := [m 10 6,
 o 11 (.bin .neq) [t 10, i 0]]
def c19_2 : EC := .rg c19_2l false
@[simp] theorem c19_2e : Rg c19_2 c19_2l false := rgE _ _
@[simp] def c19_3l : List EO := [m 12 6,
 o 4 .mv [i 0],
 m 5 12]
def c19_3 : EC := .rg c19_3l false
@[simp] theorem c19_3e : Rg c19_3 c19_3l false := rgE _ _
def c19_4 : EC := .sq c19_3 .rt
@[simp] theorem c19_4e : Sq c19_4 c19_3 .rt := sqE _ _
def c19_5 : EC := .cd (t 11) c19_4 .skip
@[simp] theorem c19_5e : Cd c19_5 (t 11) c19_4 .skip := cdE _ _ _
def c19_6 : EC := .sq c19_2 c19_5
@[simp] theorem c19_6e : Sq c19_6 c19_2 c19_5 := sqE _ _
def c19_7 : EC := .sq c19_1 c19_6
@[simp] theorem c19_7e : Sq c19_7 c19_1 c19_6 := sqE _ _
@[simp] def c19_8l : List EO := [o 13 (.load 3 true) [t 2],
 m 14 1,
 o 15 (.call 46) [t 13, t 14],
 o 16 (.ext 0) [t 15],
 o 17 (.ext 1) [t 15],
 m 4 16,
 m 5 17]
def c19_8 : EC := .rg c19_8l false
@[simp] theorem c19_8e : Rg c19_8 c19_8l false := rgE _ _
def c19_9 : EC := .sq c19_8 .rt
@[simp] theorem c19_9e : Sq c19_9 c19_8 .rt := sqE _ _
def c19_10 : EC := .sq c19_7 c19_9
@[simp] theorem c19_10e : Sq c19_10 c19_7 c19_9 := sqE _ _
def c19_11 : EC := .sq c19_0 c19_10
@[simp] theorem c19_11e : Sq c19_11 c19_0 c19_10 := sqE _ _
def c_tallystoneref07_First_19 : EC := c19_11
theorem k_19 : ecF Try.prog 19 = some (18, c_tallystoneref07_First_19, [.tm 4, .tm 5]) := by kernel_rfl

/-- tallystone/tallystoneref07.Last -/
@[simp] def c20_0l : List EO := [o 2 .box [t 0],
 o 4 .mv [i 0],
 o 5 .mv [i 0]]
def c20_0 : EC := .rg c20_0l false
@[simp] theorem c20_0e : Rg c20_0 c20_0l false := rgE _ _
@[simp] def c20_1l : List EO := [o 13 (.load 3 true) [t 2],
 m 14 1,
 o 15 (.call 19) [t 13, t 14],
 m 12 15,
 o 16 (.ext 0) [t 12],
 o 17 (.ext 1) [t 12],
 m 6 16,
 m 7 17]
def c20_1 : EC := .rg c20_1l false
@[simp] theorem c20_1e : Rg c20_1 c20_1l false := rgE _ _
@[simp] def c20_2l : List EO := [m 18 7,
 o 19 (.bin .neq) [t 18, i 0]]
def c20_2 : EC := .rg c20_2l false
@[simp] theorem c20_2e : Rg c20_2 c20_2l false := rgE _ _
@[simp] def c20_3l : List EO := [m 20 7,
 o 4 .mv [i 0],
 m 5 20]
def c20_3 : EC := .rg c20_3l false
@[simp] theorem c20_3e : Rg c20_3 c20_3l false := rgE _ _
def c20_4 : EC := .sq c20_3 .rt
@[simp] theorem c20_4e : Sq c20_4 c20_3 .rt := sqE _ _
def c20_5 : EC := .cd (t 19) c20_4 .skip
@[simp] theorem c20_5e : Cd c20_5 (t 19) c20_4 .skip := cdE _ _ _
def c20_6 : EC := .sq c20_2 c20_5
@[simp] theorem c20_6e : Sq c20_6 c20_2 c20_5 := sqE _ _
@[simp] def c20_7l : List EO := [m 22 6,
 o 23 (.call 47) [t 22],
 m 21 23,
 o 24 (.ext 0) [t 21],
 o 25 (.ext 1) [t 21],
 o 26 (.ext 2) [t 21],
 o 27 (.ext 3) [t 21],
 m 8 24,
 m 9 25,
 m 10 26,
 m 11 27]
def c20_7 : EC := .rg c20_7l false
@[simp] theorem c20_7e : Rg c20_7 c20_7l false := rgE _ _
@[simp] def c20_8l : List EO := [m 28 6,
 m 29 8,
 m 30 9,
 o 31 (.call 48) [t 29, t 30],
 o 32 (.bin .add) [t 28, t 31],
 o 33 (.bin .sub) [t 32, i 1],
 m 4 33,
 o 5 .mv [i 0]]
def c20_8 : EC := .rg c20_8l false
@[simp] theorem c20_8e : Rg c20_8 c20_8l false := rgE _ _
def c20_9 : EC := .sq c20_8 .rt
@[simp] theorem c20_9e : Sq c20_9 c20_8 .rt := sqE _ _
def c20_10 : EC := .sq c20_7 c20_9
@[simp] theorem c20_10e : Sq c20_10 c20_7 c20_9 := sqE _ _
def c20_11 : EC := .sq c20_6 c20_10
@[simp] theorem c20_11e : Sq c20_11 c20_6 c20_10 := sqE _ _
def c20_12 : EC := .sq c20_1 c20_11
@[simp] theorem c20_12e : Sq c20_12 c20_1 c20_11 := sqE _ _
def c20_13 : EC := .sq c20_0 c20_12
@[simp] theorem c20_13e : Sq c20_13 c20_0 c20_12 := sqE _ _
def c_tallystoneref07_Last_20 : EC := c20_13
theorem k_20 : ecF Try.prog 20 = some (34, c_tallystoneref07_Last_20, [.tm 4, .tm 5]) := by kernel_rfl

/-- tallystone/note.All -/
@[simp] def c21_0l : List EO := [o 3 .box [t 0],
 o 4 .box [t 1],
 o 5 .box [t 2],
 o 6 .mv [c (.snil)],
 o 7 .mv [i 0]]
def c21_0 : EC := .rg c21_0l false
@[simp] theorem c21_0e : Rg c21_0 c21_0l false := rgE _ _
@[simp] def c21_1l : List EO := [o 17 (.load 21 true) [t 3],
 o 18 (.faddr 0) [t 5],
 o 19 (.load 1 false) [t 18],
 o 20 (.call 31) [t 17, t 19],
 m 16 20,
 o 21 (.ext 0) [t 16],
 o 22 (.ext 1) [t 16],
 o 23 (.ext 2) [t 16],
 m 8 21,
 m 9 22,
 m 10 23]
def c21_1 : EC := .rg c21_1l false
@[simp] theorem c21_1e : Rg c21_1 c21_1l false := rgE _ _
@[simp] def c21_2l : List EO := [m 24 10,
 o 25 (.bin .neq) [t 24, i 0]]
def c21_2 : EC := .rg c21_2l false
@[simp] theorem c21_2e : Rg c21_2 c21_2l false := rgE _ _
@[simp] def c21_3l : List EO := [m 26 10,
 o 6 .mv [c (.snil)],
 m 7 26]
def c21_3 : EC := .rg c21_3l false
@[simp] theorem c21_3e : Rg c21_3 c21_3l false := rgE _ _
def c21_4 : EC := .sq c21_3 .rt
@[simp] theorem c21_4e : Sq c21_4 c21_3 .rt := sqE _ _
def c21_5 : EC := .cd (t 25) c21_4 .skip
@[simp] theorem c21_5e : Cd c21_5 (t 25) c21_4 .skip := cdE _ _ _
def c21_6 : EC := .sq c21_2 c21_5
@[simp] theorem c21_6e : Sq c21_6 c21_2 c21_5 := sqE _ _
def c21_7 : EC := .sq c21_1 c21_6
@[simp] theorem c21_7e : Sq c21_7 c21_1 c21_6 := sqE _ _
@[simp] def c21_8l : List EO := [o 11 .mv [c (.snil)]]
def c21_8 : EC := .rg c21_8l false
@[simp] theorem c21_8e : Rg c21_8 c21_8l false := rgE _ _
@[simp] def c21_9l : List EO := [o 27 (.faddr 4) [t 3],
 o 28 (.load 1 false) [t 27],
 o 29 .lenL [t 28],
 o 30 .mv [i 0]]
def c21_9 : EC := .rg c21_9l false
@[simp] theorem c21_9e : Rg c21_9 c21_9l false := rgE _ _
@[simp] def c21_10l : List EO := [o 31 (.bin .lss) [t 30, t 29]]
def c21_10 : EC := .rg c21_10l false
@[simp] theorem c21_10e : Rg c21_10 c21_10l false := rgE _ _
def c21_11 : EC := .cd (t 31) .skip (.ex 0)
@[simp] theorem c21_11e : Cd c21_11 (t 31) .skip (.ex 0) := cdE _ _ _
@[simp] def c21_12l : List EO := [o 32 (.iaS 4) [t 28, t 30],
 o 33 (.load 4 true) [t 32],
 o 13 (.alloc [.t (.int .i64 0), .t (.int .i64 0), .t (.int .i64 0), .t (.int .i64 0)]) [],
 u (.store 4) [t 13, t 33]]
def c21_12 : EC := .rg c21_12l false
@[simp] theorem c21_12e : Rg c21_12 c21_12l false := rgE _ _
@[simp] def c21_13l : List EO := [o 35 (.load 21 true) [t 3],
 o 36 (.load 4 true) [t 4],
 o 37 (.load 4 true) [t 5],
 o 38 (.faddr 0) [t 13],
 o 39 (.load 1 false) [t 38],
 o 40 (.call 14) [t 35, t 36, t 37, t 39],
 m 34 40,
 o 41 (.ext 0) [t 34],
 o 42 (.ext 1) [t 34],
 o 14 (.alloc [.t (.int .i64 0), .t (.int .i64 0), .t (.int .i64 0), .t (.int .i64 0), .t (.int .i64 0), .t (.int .i64 0), .t (.int .i64 0), .t (.int .i64 0), .t (.int .i64 0), .t (.int .i64 0), .t (.int .i64 0), .t (.int .i64 0), .t (.int .i64 0), .t (.int .i64 0), .t (.int .i64 0), .t (.int .i64 0)]) [],
 u (.store 16) [t 14, t 41],
 m 15 42]
def c21_13 : EC := .rg c21_13l false
@[simp] theorem c21_13e : Rg c21_13 c21_13l false := rgE _ _
@[simp] def c21_14l : List EO := [m 43 15,
 o 44 (.bin .neq) [t 43, i 0]]
def c21_14 : EC := .rg c21_14l false
@[simp] theorem c21_14e : Rg c21_14 c21_14l false := rgE _ _
@[simp] def c21_15l : List EO := [m 45 15,
 o 6 .mv [c (.snil)],
 m 7 45]
def c21_15 : EC := .rg c21_15l false
@[simp] theorem c21_15e : Rg c21_15 c21_15l false := rgE _ _
def c21_16 : EC := .sq c21_15 .rt
@[simp] theorem c21_16e : Sq c21_16 c21_15 .rt := sqE _ _
def c21_17 : EC := .cd (t 44) c21_16 .skip
@[simp] theorem c21_17e : Cd c21_17 (t 44) c21_16 .skip := cdE _ _ _
def c21_18 : EC := .sq c21_14 c21_17
@[simp] theorem c21_18e : Sq c21_18 c21_14 c21_17 := sqE _ _
@[simp] def c21_19l : List EO := [o 46 (.load 16 true) [t 14],
 o 47 (.call 36) [t 46],
 o 48 (.call 35) [t 47, c (.fn (.func 49) [])]]
def c21_19 : EC := .rg c21_19l false
@[simp] theorem c21_19e : Rg c21_19 c21_19l false := rgE _ _
@[simp] def c21_20l : List EO := [m 49 11,
 o 50 (.load 16 true) [t 14],
 o 51 (.bsl 16) [t 50],
 o 52 (.app 44 16 128) [t 49, t 51],
 m 11 52]
def c21_20 : EC := .rg c21_20l false
@[simp] theorem c21_20e : Rg c21_20 c21_20l false := rgE _ _
def c21_21 : EC := .cd (t 48) c21_20 .skip
@[simp] theorem c21_21e : Cd c21_21 (t 48) c21_20 .skip := cdE _ _ _
def c21_22 : EC := .sq c21_19 c21_21
@[simp] theorem c21_22e : Sq c21_22 c21_19 c21_21 := sqE _ _
def c21_23 : EC := .sq c21_18 c21_22
@[simp] theorem c21_23e : Sq c21_23 c21_18 c21_22 := sqE _ _
def c21_24 : EC := .sq c21_13 c21_23
@[simp] theorem c21_24e : Sq c21_24 c21_13 c21_23 := sqE _ _
def c21_25 : EC := .sq c21_12 c21_24
@[simp] theorem c21_25e : Sq c21_25 c21_12 c21_24 := sqE _ _
def c21_26 : EC := .bk 1 c21_25
@[simp] theorem c21_26e : Bk c21_26 1 c21_25 := bkE _ _
@[simp] def c21_27l : List EO := [o 53 (.bin .add) [t 30, i 1],
 m 30 53]
def c21_27 : EC := .rg c21_27l false
@[simp] theorem c21_27e : Rg c21_27 c21_27l false := rgE _ _
def c21_28 : EC := .sq c21_26 c21_27
@[simp] theorem c21_28e : Sq c21_28 c21_26 c21_27 := sqE _ _
def c21_29 : EC := .sq c21_11 c21_28
@[simp] theorem c21_29e : Sq c21_29 c21_11 c21_28 := sqE _ _
def c21_30 : EC := .sq c21_10 c21_29
@[simp] theorem c21_30e : Sq c21_30 c21_10 c21_29 := sqE _ _
def c21_31 : EC := .bk 0 (.lp c21_30)
@[simp] theorem c21_31e : Bk c21_31 0 (.lp c21_30) := bkE _ _
def c21_32 : EC := .sq c21_9 c21_31
@[simp] theorem c21_32e : Sq c21_32 c21_9 c21_31 := sqE _ _
@[simp] def c21_33l : List EO := [m 54 11,
 m 6 54,
 o 7 .mv [i 0]]
def c21_33 : EC := .rg c21_33l false
@[simp] theorem c21_33e : Rg c21_33 c21_33l false := rgE _ _
def c21_34 : EC := .sq c21_33 .rt
@[simp] theorem c21_34e : Sq c21_34 c21_33 .rt := sqE _ _
def c21_35 : EC := .sq c21_32 c21_34
@[simp] theorem c21_35e : Sq c21_35 c21_32 c21_34 := sqE _ _
def c21_36 : EC := .sq c21_8 c21_35
@[simp] theorem c21_36e : Sq c21_36 c21_8 c21_35 := sqE _ _
def c21_37 : EC := .sq c21_7 c21_36
@[simp] theorem c21_37e : Sq c21_37 c21_7 c21_36 := sqE _ _
def c21_38 : EC := .sq c21_0 c21_37
@[simp] theorem c21_38e : Sq c21_38 c21_0 c21_37 := sqE _ _
def c_note_All_21 : EC := c21_38
theorem k_21 : ecF Try.prog 21 = some (55, c_note_All_21, [.tm 6, .tm 7]) := by kernel_rfl

/-- tallystone/note.All, with slices that grow in boxes -/
@[simp] def b21_0l : List EO := [o 3 .box [t 0],
 o 4 .box [t 1],
 o 5 .box [t 2],
 o 6 .mv [c (.snil)],
 o 7 .mv [i 0]]
def b21_0 : EC := .rg b21_0l false
@[simp] theorem b21_0e : Rg b21_0 b21_0l false := rgE _ _
@[simp] def b21_1l : List EO := [o 17 (.load 21 true) [t 3],
 o 18 (.faddr 0) [t 5],
 o 19 (.load 1 false) [t 18],
 o 20 (.call 31) [t 17, t 19],
 m 16 20,
 o 21 (.ext 0) [t 16],
 o 22 (.ext 1) [t 16],
 o 23 (.ext 2) [t 16],
 m 8 21,
 m 9 22,
 m 10 23]
def b21_1 : EC := .rg b21_1l false
@[simp] theorem b21_1e : Rg b21_1 b21_1l false := rgE _ _
@[simp] def b21_2l : List EO := [m 24 10,
 o 25 (.bin .neq) [t 24, i 0]]
def b21_2 : EC := .rg b21_2l false
@[simp] theorem b21_2e : Rg b21_2 b21_2l false := rgE _ _
@[simp] def b21_3l : List EO := [m 26 10,
 o 6 .mv [c (.snil)],
 m 7 26]
def b21_3 : EC := .rg b21_3l false
@[simp] theorem b21_3e : Rg b21_3 b21_3l false := rgE _ _
def b21_4 : EC := .sq b21_3 .rt
@[simp] theorem b21_4e : Sq b21_4 b21_3 .rt := sqE _ _
def b21_5 : EC := .cd (t 25) b21_4 .skip
@[simp] theorem b21_5e : Cd b21_5 (t 25) b21_4 .skip := cdE _ _ _
def b21_6 : EC := .sq b21_2 b21_5
@[simp] theorem b21_6e : Sq b21_6 b21_2 b21_5 := sqE _ _
def b21_7 : EC := .sq b21_1 b21_6
@[simp] theorem b21_7e : Sq b21_7 b21_1 b21_6 := sqE _ _
@[simp] def b21_8l : List EO := [o 11 .mv [c (.snil)]]
def b21_8 : EC := .rg b21_8l false
@[simp] theorem b21_8e : Rg b21_8 b21_8l false := rgE _ _
@[simp] def b21_9l : List EO := [o 27 (.faddr 4) [t 3],
 o 28 (.load 1 false) [t 27],
 o 29 .lenL [t 28],
 o 30 .mv [i 0]]
def b21_9 : EC := .rg b21_9l false
@[simp] theorem b21_9e : Rg b21_9 b21_9l false := rgE _ _
@[simp] def b21_10l : List EO := [o 31 (.bin .lss) [t 30, t 29]]
def b21_10 : EC := .rg b21_10l false
@[simp] theorem b21_10e : Rg b21_10 b21_10l false := rgE _ _
def b21_11 : EC := .cd (t 31) .skip (.ex 0)
@[simp] theorem b21_11e : Cd b21_11 (t 31) .skip (.ex 0) := cdE _ _ _
@[simp] def b21_12l : List EO := [o 32 (.iaS 4) [t 28, t 30],
 o 33 (.load 4 true) [t 32],
 o 13 (.alloc [.t (.int .i64 0), .t (.int .i64 0), .t (.int .i64 0), .t (.int .i64 0)]) [],
 u (.store 4) [t 13, t 33]]
def b21_12 : EC := .rg b21_12l false
@[simp] theorem b21_12e : Rg b21_12 b21_12l false := rgE _ _
@[simp] def b21_13l : List EO := [o 35 (.load 21 true) [t 3],
 o 36 (.load 4 true) [t 4],
 o 37 (.load 4 true) [t 5],
 o 38 (.faddr 0) [t 13],
 o 39 (.load 1 false) [t 38],
 o 40 (.call 14) [t 35, t 36, t 37, t 39],
 m 34 40,
 o 41 (.ext 0) [t 34],
 o 42 (.ext 1) [t 34],
 o 14 (.alloc [.t (.int .i64 0), .t (.int .i64 0), .t (.int .i64 0), .t (.int .i64 0), .t (.int .i64 0), .t (.int .i64 0), .t (.int .i64 0), .t (.int .i64 0), .t (.int .i64 0), .t (.int .i64 0), .t (.int .i64 0), .t (.int .i64 0), .t (.int .i64 0), .t (.int .i64 0), .t (.int .i64 0), .t (.int .i64 0)]) [],
 u (.store 16) [t 14, t 41],
 m 15 42]
def b21_13 : EC := .rg b21_13l false
@[simp] theorem b21_13e : Rg b21_13 b21_13l false := rgE _ _
@[simp] def b21_14l : List EO := [m 43 15,
 o 44 (.bin .neq) [t 43, i 0]]
def b21_14 : EC := .rg b21_14l false
@[simp] theorem b21_14e : Rg b21_14 b21_14l false := rgE _ _
@[simp] def b21_15l : List EO := [m 45 15,
 o 6 .mv [c (.snil)],
 m 7 45]
def b21_15 : EC := .rg b21_15l false
@[simp] theorem b21_15e : Rg b21_15 b21_15l false := rgE _ _
def b21_16 : EC := .sq b21_15 .rt
@[simp] theorem b21_16e : Sq b21_16 b21_15 .rt := sqE _ _
def b21_17 : EC := .cd (t 44) b21_16 .skip
@[simp] theorem b21_17e : Cd b21_17 (t 44) b21_16 .skip := cdE _ _ _
def b21_18 : EC := .sq b21_14 b21_17
@[simp] theorem b21_18e : Sq b21_18 b21_14 b21_17 := sqE _ _
@[simp] def b21_19l : List EO := [o 46 (.load 16 true) [t 14],
 o 47 (.call 36) [t 46],
 o 48 (.call 35) [t 47, c (.fn (.func 49) [])]]
def b21_19 : EC := .rg b21_19l false
@[simp] theorem b21_19e : Rg b21_19 b21_19l false := rgE _ _
@[simp] def b21_20l : List EO := [m 49 11,
 o 50 (.load 16 true) [t 14],
 o 51 (.bsl 16) [t 50],
 o 52 (.appB 44 16 128) [t 49, t 51],
 m 11 52]
def b21_20 : EC := .rg b21_20l false
@[simp] theorem b21_20e : Rg b21_20 b21_20l false := rgE _ _
def b21_21 : EC := .cd (t 48) b21_20 .skip
@[simp] theorem b21_21e : Cd b21_21 (t 48) b21_20 .skip := cdE _ _ _
def b21_22 : EC := .sq b21_19 b21_21
@[simp] theorem b21_22e : Sq b21_22 b21_19 b21_21 := sqE _ _
def b21_23 : EC := .sq b21_18 b21_22
@[simp] theorem b21_23e : Sq b21_23 b21_18 b21_22 := sqE _ _
def b21_24 : EC := .sq b21_13 b21_23
@[simp] theorem b21_24e : Sq b21_24 b21_13 b21_23 := sqE _ _
def b21_25 : EC := .sq b21_12 b21_24
@[simp] theorem b21_25e : Sq b21_25 b21_12 b21_24 := sqE _ _
def b21_26 : EC := .bk 1 b21_25
@[simp] theorem b21_26e : Bk b21_26 1 b21_25 := bkE _ _
@[simp] def b21_27l : List EO := [o 53 (.bin .add) [t 30, i 1],
 m 30 53]
def b21_27 : EC := .rg b21_27l false
@[simp] theorem b21_27e : Rg b21_27 b21_27l false := rgE _ _
def b21_28 : EC := .sq b21_26 b21_27
@[simp] theorem b21_28e : Sq b21_28 b21_26 b21_27 := sqE _ _
def b21_29 : EC := .sq b21_11 b21_28
@[simp] theorem b21_29e : Sq b21_29 b21_11 b21_28 := sqE _ _
def b21_30 : EC := .sq b21_10 b21_29
@[simp] theorem b21_30e : Sq b21_30 b21_10 b21_29 := sqE _ _
def b21_31 : EC := .bk 0 (.lp b21_30)
@[simp] theorem b21_31e : Bk b21_31 0 (.lp b21_30) := bkE _ _
def b21_32 : EC := .sq b21_9 b21_31
@[simp] theorem b21_32e : Sq b21_32 b21_9 b21_31 := sqE _ _
@[simp] def b21_33l : List EO := [m 54 11,
 m 6 54,
 o 7 .mv [i 0]]
def b21_33 : EC := .rg b21_33l false
@[simp] theorem b21_33e : Rg b21_33 b21_33l false := rgE _ _
def b21_34 : EC := .sq b21_33 .rt
@[simp] theorem b21_34e : Sq b21_34 b21_33 .rt := sqE _ _
def b21_35 : EC := .sq b21_32 b21_34
@[simp] theorem b21_35e : Sq b21_35 b21_32 b21_34 := sqE _ _
def b21_36 : EC := .sq b21_8 b21_35
@[simp] theorem b21_36e : Sq b21_36 b21_8 b21_35 := sqE _ _
def b21_37 : EC := .sq b21_7 b21_36
@[simp] theorem b21_37e : Sq b21_37 b21_7 b21_36 := sqE _ _
def b21_38 : EC := .sq b21_0 b21_37
@[simp] theorem b21_38e : Sq b21_38 b21_0 b21_37 := sqE _ _
def b_note_All_21 : EC := b21_38
theorem kb_21 : ecB Try.prog 21 = some (55, b_note_All_21, [.tm 6, .tm 7]) := by kernel_rfl
end Go.Proofs.Ythfnaaeddlnckaa
