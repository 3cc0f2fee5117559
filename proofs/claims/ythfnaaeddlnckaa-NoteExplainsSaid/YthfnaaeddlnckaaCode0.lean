/- The code of the functions of this seat, as the engine reads it; printed by program out of the translation, checked by the kernel. -/
import Derived.Test.YthfnaaeddlnckaaEd
import Derived.Test.YthfnaaeddlnckaaProg
set_option linter.unusedSimpArgs false
set_option linter.unusedVariables false
namespace Go.Proofs.Ythfnaaeddlnckaa
open Go.Proofs E E.Z
variable {P : Program} {nb nt : Nat} {Q : Ex → Fr → St → Prop} {a : Fr} {S : St}
/-- gosem.cut.init -/
@[simp] def c2_0l : List EO := [o 0 (.call 1) []]
def c2_0 : EC := .rg c2_0l false
@[simp] theorem c2_0e : Rg c2_0 c2_0l false := rgE _ _
def c_gosem_cut_init_2 : EC := c2_0
theorem k_2 : ecF Try.prog 2 = some (1, c_gosem_cut_init_2, []) := by kernel_rfl

/-- tallystone/tallystonelaw58.ShellNames -/
@[simp] def c3_0l : List EO := [o 2 .mv [b false]]
def c3_0 : EC := .rg c3_0l false
@[simp] theorem c3_0e : Rg c3_0 c3_0l false := rgE _ _
@[simp] def c3_1l : List EO := [o 3 (.call 10) [i 0],
 o 4 (.bin .eql) [t 3, c (.t (.str [111, 107]))],
 m 5 4,
 y 6 5 .mv [t 0],
 y 7 5 (.call 10) [t 6],
 y 8 5 .mv [t 0],
 y 9 5 (.call 11) [t 8],
 y 10 5 (.bin .eql) [t 7, t 9],
 o 11 .pick [t 5, t 10, b false],
 m 2 11]
def c3_1 : EC := .rg c3_1l false
@[simp] theorem c3_1e : Rg c3_1 c3_1l false := rgE _ _
def c3_2 : EC := .sq c3_1 .rt
@[simp] theorem c3_2e : Sq c3_2 c3_1 .rt := sqE _ _
def c3_3 : EC := .sq c3_0 c3_2
@[simp] theorem c3_3e : Sq c3_3 c3_0 c3_2 := sqE _ _
def c_tallystonelaw58_ShellNames_3 : EC := c3_3
theorem k_3 : ecF Try.prog 3 = some (12, c_tallystonelaw58_ShellNames_3, [.tm 2]) := by kernel_rfl

/-- tallystone/tallystonelaw52.NoteMake -/
@[simp] def c4_0l : List EO := [o 3 .box [t 0],
 o 4 .box [t 1],
 o 6 .mv [b false]]
def c4_0 : EC := .rg c4_0l false
@[simp] theorem c4_0e : Rg c4_0 c4_0l false := rgE _ _
@[simp] def c4_1l : List EO := [o 11 (.call 12) [],
 o 12 (.un .not) [t 11],
 m 13 12,
 n 14 13 (.load 21 true) [t 3],
 n 15 13 (.faddr 0) [t 4],
 n 16 13 (.load 4 true) [t 15],
 n 17 13 (.faddr 4) [t 4],
 n 18 13 (.load 4 true) [t 17],
 n 19 13 (.call 13) [t 14, t 16, t 18],
 n 20 13 (.un .not) [t 19],
 o 21 .pick [t 13, b true, t 20]]
def c4_1 : EC := .rg c4_1l false
@[simp] theorem c4_1e : Rg c4_1 c4_1l false := rgE _ _
@[simp] def c4_2l : List EO := [o 22 (.call 12) [],
 m 6 22]
def c4_2 : EC := .rg c4_2l false
@[simp] theorem c4_2e : Rg c4_2 c4_2l false := rgE _ _
def c4_3 : EC := .sq c4_2 .rt
@[simp] theorem c4_3e : Sq c4_3 c4_2 .rt := sqE _ _
def c4_4 : EC := .cd (t 21) c4_3 .skip
@[simp] theorem c4_4e : Cd c4_4 (t 21) c4_3 .skip := cdE _ _ _
def c4_5 : EC := .sq c4_1 c4_4
@[simp] theorem c4_5e : Sq c4_5 c4_1 c4_4 := sqE _ _
@[simp] def c4_6l : List EO := [o 24 (.load 21 true) [t 3],
 o 25 (.faddr 0) [t 4],
 o 26 (.load 4 true) [t 25],
 o 27 (.faddr 4) [t 4],
 o 28 (.load 4 true) [t 27],
 m 29 2,
 o 30 (.call 14) [t 24, t 26, t 28, t 29],
 m 23 30,
 o 31 (.ext 0) [t 23],
 o 32 (.ext 1) [t 23],
 o 7 (.alloc [.t (.int .i64 0), .t (.int .i64 0), .t (.int .i64 0), .t (.int .i64 0), .t (.int .i64 0), .t (.int .i64 0), .t (.int .i64 0), .t (.int .i64 0), .t (.int .i64 0), .t (.int .i64 0), .t (.int .i64 0), .t (.int .i64 0), .t (.int .i64 0), .t (.int .i64 0), .t (.int .i64 0), .t (.int .i64 0)]) [],
 u (.store 16) [t 7, t 31],
 m 8 32]
def c4_6 : EC := .rg c4_6l false
@[simp] theorem c4_6e : Rg c4_6 c4_6l false := rgE _ _
@[simp] def c4_7l : List EO := [o 34 (.load 21 true) [t 3],
 o 35 (.faddr 0) [t 4],
 o 36 (.load 4 true) [t 35],
 o 37 (.faddr 4) [t 4],
 o 38 (.load 4 true) [t 37],
 m 39 2,
 o 40 (.call 15) [t 34, t 36, t 38, t 39],
 m 33 40,
 o 41 (.ext 0) [t 33],
 o 42 (.ext 1) [t 33],
 o 9 (.alloc [.t (.int .i64 0), .t (.int .i64 0), .t (.int .i64 0), .t (.int .i64 0), .t (.int .i64 0), .t (.int .i64 0), .t (.int .i64 0), .t (.int .i64 0), .t (.int .i64 0), .t (.int .i64 0), .t (.int .i64 0), .t (.int .i64 0), .t (.int .i64 0), .t (.int .i64 0), .t (.int .i64 0), .t (.int .i64 0)]) [],
 u (.store 16) [t 9, t 41],
 m 10 42]
def c4_7 : EC := .rg c4_7l false
@[simp] theorem c4_7e : Rg c4_7 c4_7l false := rgE _ _
@[simp] def c4_8l : List EO := [m 43 8,
 m 44 10,
 o 45 (.bin .eql) [t 43, t 44],
 m 46 45,
 y 47 46 (.load 16 true) [t 7],
 y 48 46 (.load 16 true) [t 9],
 y 49 46 (.eqv false true [1, 1, 1, 1, 1, 1, 1, 1, 1, 1, 1, 1, 1, 1, 1, 1]) [t 47, t 48],
 o 50 .pick [t 46, t 49, b false],
 m 51 50,
 y 52 51 (.load 16 true) [t 7],
 y 53 51 (.call 16) [t 52],
 y 54 51 (.load 16 true) [t 9],
 y 55 51 (.call 17) [t 54],
 y 56 51 (.bin .eql) [t 53, t 55],
 o 57 .pick [t 51, t 56, b false],
 m 6 57]
def c4_8 : EC := .rg c4_8l true
@[simp] theorem c4_8e : Rg c4_8 c4_8l true := rgE _ _
def c4_9 : EC := .sq c4_8 .rt
@[simp] theorem c4_9e : Sq c4_9 c4_8 .rt := sqE _ _
def c4_10 : EC := .sq c4_7 c4_9
@[simp] theorem c4_10e : Sq c4_10 c4_7 c4_9 := sqE _ _
def c4_11 : EC := .sq c4_6 c4_10
@[simp] theorem c4_11e : Sq c4_11 c4_6 c4_10 := sqE _ _
def c4_12 : EC := .sq c4_5 c4_11
@[simp] theorem c4_12e : Sq c4_12 c4_5 c4_11 := sqE _ _
def c4_13 : EC := .sq c4_0 c4_12
@[simp] theorem c4_13e : Sq c4_13 c4_0 c4_12 := sqE _ _
def c_tallystonelaw52_NoteMake_4 : EC := c4_13
theorem k_4 : ecF Try.prog 4 = some (58, c_tallystonelaw52_NoteMake_4, [.tm 6]) := by kernel_rfl

/-- tallystone/tallystonelaw52.NoteExplains -/
@[simp] def c5_0l : List EO := [o 3 .box [t 0],
 o 4 .box [t 1],
 o 6 .mv [b false]]
def c5_0 : EC := .rg c5_0l false
@[simp] theorem c5_0e : Rg c5_0 c5_0l false := rgE _ _
@[simp] def c5_1l : List EO := [o 11 (.call 12) [],
 o 12 (.un .not) [t 11],
 m 13 12,
 n 14 13 (.load 21 true) [t 3],
 n 15 13 (.faddr 0) [t 4],
 n 16 13 (.load 4 true) [t 15],
 n 17 13 (.faddr 4) [t 4],
 n 18 13 (.load 4 true) [t 17],
 n 19 13 (.call 13) [t 14, t 16, t 18],
 n 20 13 (.un .not) [t 19],
 o 21 .pick [t 13, b true, t 20]]
def c5_1 : EC := .rg c5_1l false
@[simp] theorem c5_1e : Rg c5_1 c5_1l false := rgE _ _
@[simp] def c5_2l : List EO := [o 22 (.call 12) [],
 m 6 22]
def c5_2 : EC := .rg c5_2l false
@[simp] theorem c5_2e : Rg c5_2 c5_2l false := rgE _ _
def c5_3 : EC := .sq c5_2 .rt
@[simp] theorem c5_3e : Sq c5_3 c5_2 .rt := sqE _ _
def c5_4 : EC := .cd (t 21) c5_3 .skip
@[simp] theorem c5_4e : Cd c5_4 (t 21) c5_3 .skip := cdE _ _ _
def c5_5 : EC := .sq c5_1 c5_4
@[simp] theorem c5_5e : Sq c5_5 c5_1 c5_4 := sqE _ _
@[simp] def c5_6l : List EO := [o 23 (.bsl 5) [],
 o 24 (.faddr 0) [t 4],
 o 25 (.faddr 2) [t 24],
 o 26 (.load 1 false) [t 25],
 o 27 (.app 55 5 56) [t 23, t 26],
 o 28 (.faddr 4) [t 4],
 o 29 (.faddr 2) [t 28],
 o 30 (.load 1 false) [t 29],
 o 31 (.app 55 5 56) [t 27, t 30],
 o 32 .lenL [t 31],
 o 33 .mv [i 0]]
def c5_6 : EC := .rg c5_6l true
@[simp] theorem c5_6e : Rg c5_6 c5_6l true := rgE _ _
@[simp] def c5_7l : List EO := [o 34 (.bin .lss) [t 33, t 32]]
def c5_7 : EC := .rg c5_7l false
@[simp] theorem c5_7e : Rg c5_7 c5_7l false := rgE _ _
def c5_8 : EC := .cd (t 34) .skip (.ex 0)
@[simp] theorem c5_8e : Cd c5_8 (t 34) .skip (.ex 0) := cdE _ _ _
@[simp] def c5_9l : List EO := [o 35 (.iaS 5) [t 31, t 33],
 o 36 (.load 5 true) [t 35],
 o 8 (.alloc [.t (.int .i64 0), .t (.int .i64 0), .t (.int .i64 0), .t (.int .i64 0), .snil]) [],
 u (.store 5) [t 8, t 36]]
def c5_9 : EC := .rg c5_9l false
@[simp] theorem c5_9e : Rg c5_9 c5_9l false := rgE _ _
@[simp] def c5_10l : List EO := [o 37 (.faddr 0) [t 8],
 o 38 (.load 1 false) [t 37],
 o 39 (.bin .lss) [t 38, i 1],
 m 40 39,
 n 41 40 (.faddr 0) [t 8],
 n 42 40 (.load 1 false) [t 41],
 n 43 40 (.bin .gtr) [t 42, i 10],
 o 44 .pick [t 40, b true, t 43]]
def c5_10 : EC := .rg c5_10l false
@[simp] theorem c5_10e : Rg c5_10 c5_10l false := rgE _ _
@[simp] def c5_11l : List EO := [o 6 .mv [b true]]
def c5_11 : EC := .rg c5_11l false
@[simp] theorem c5_11e : Rg c5_11 c5_11l false := rgE _ _
def c5_12 : EC := .sq c5_11 .rt
@[simp] theorem c5_12e : Sq c5_12 c5_11 .rt := sqE _ _
def c5_13 : EC := .cd (t 44) c5_12 .skip
@[simp] theorem c5_13e : Cd c5_13 (t 44) c5_12 .skip := cdE _ _ _
def c5_14 : EC := .sq c5_10 c5_13
@[simp] theorem c5_14e : Sq c5_14 c5_10 c5_13 := sqE _ _
def c5_15 : EC := .sq c5_9 c5_14
@[simp] theorem c5_15e : Sq c5_15 c5_9 c5_14 := sqE _ _
def c5_16 : EC := .bk 1 c5_15
@[simp] theorem c5_16e : Bk c5_16 1 c5_15 := bkE _ _
@[simp] def c5_17l : List EO := [o 45 (.bin .add) [t 33, i 1],
 m 33 45]
def c5_17 : EC := .rg c5_17l false
@[simp] theorem c5_17e : Rg c5_17 c5_17l false := rgE _ _
def c5_18 : EC := .sq c5_16 c5_17
@[simp] theorem c5_18e : Sq c5_18 c5_16 c5_17 := sqE _ _
def c5_19 : EC := .sq c5_8 c5_18
@[simp] theorem c5_19e : Sq c5_19 c5_8 c5_18 := sqE _ _
def c5_20 : EC := .sq c5_7 c5_19
@[simp] theorem c5_20e : Sq c5_20 c5_7 c5_19 := sqE _ _
def c5_21 : EC := .bk 0 (.lp c5_20)
@[simp] theorem c5_21e : Bk c5_21 0 (.lp c5_20) := bkE _ _
def c5_22 : EC := .sq c5_6 c5_21
@[simp] theorem c5_22e : Sq c5_22 c5_6 c5_21 := sqE _ _
@[simp] def c5_23l : List EO := [o 47 (.load 21 true) [t 3],
 o 48 (.faddr 0) [t 4],
 o 49 (.load 4 true) [t 48],
 o 50 (.faddr 4) [t 4],
 o 51 (.load 4 true) [t 50],
 m 52 2,
 o 53 (.call 14) [t 47, t 49, t 51, t 52],
 m 46 53,
 o 54 (.ext 0) [t 46],
 o 55 (.ext 1) [t 46],
 o 9 (.alloc [.t (.int .i64 0), .t (.int .i64 0), .t (.int .i64 0), .t (.int .i64 0), .t (.int .i64 0), .t (.int .i64 0), .t (.int .i64 0), .t (.int .i64 0), .t (.int .i64 0), .t (.int .i64 0), .t (.int .i64 0), .t (.int .i64 0), .t (.int .i64 0), .t (.int .i64 0), .t (.int .i64 0), .t (.int .i64 0)]) [],
 u (.store 16) [t 9, t 54],
 m 10 55]
def c5_23 : EC := .rg c5_23l false
@[simp] theorem c5_23e : Rg c5_23 c5_23l false := rgE _ _
@[simp] def c5_24l : List EO := [m 56 10,
 o 57 (.bin .neq) [t 56, i 0]]
def c5_24 : EC := .rg c5_24l false
@[simp] theorem c5_24e : Rg c5_24 c5_24l false := rgE _ _
@[simp] def c5_25l : List EO := [o 58 (.load 16 true) [t 9],
 o 59 (.build [.t (.int .i64 0), .t (.int .i64 0), .t (.int .i64 0), .t (.int .i64 0), .t (.int .i64 0), .t (.int .i64 0), .t (.int .i64 0), .t (.int .i64 0), .t (.int .i64 0), .t (.int .i64 0), .t (.int .i64 0), .t (.int .i64 0), .t (.int .i64 0), .t (.int .i64 0), .t (.int .i64 0), .t (.int .i64 0)] []) [],
 o 60 (.eqv false true [1, 1, 1, 1, 1, 1, 1, 1, 1, 1, 1, 1, 1, 1, 1, 1]) [t 58, t 59],
 m 6 60]
def c5_25 : EC := .rg c5_25l false
@[simp] theorem c5_25e : Rg c5_25 c5_25l false := rgE _ _
def c5_26 : EC := .sq c5_25 .rt
@[simp] theorem c5_26e : Sq c5_26 c5_25 .rt := sqE _ _
def c5_27 : EC := .cd (t 57) c5_26 .skip
@[simp] theorem c5_27e : Cd c5_27 (t 57) c5_26 .skip := cdE _ _ _
def c5_28 : EC := .sq c5_24 c5_27
@[simp] theorem c5_28e : Sq c5_28 c5_24 c5_27 := sqE _ _
@[simp] def c5_29l : List EO := [o 61 (.faddr 1) [t 9],
 o 62 (.load 1 false) [t 61],
 o 63 (.faddr 2) [t 9],
 o 64 (.load 1 false) [t 63],
 o 65 (.bin .add) [t 62, t 64],
 o 66 (.load 16 true) [t 9],
 o 67 (.call 16) [t 66],
 o 68 (.bin .add) [t 65, t 67],
 o 69 (.faddr 3) [t 9],
 o 70 (.load 1 false) [t 69],
 o 71 (.bin .add) [t 68, t 70],
 o 72 (.faddr 4) [t 9],
 o 73 (.load 1 false) [t 72],
 o 74 (.bin .eql) [t 71, t 73],
 m 6 74]
def c5_29 : EC := .rg c5_29l true
@[simp] theorem c5_29e : Rg c5_29 c5_29l true := rgE _ _
def c5_30 : EC := .sq c5_29 .rt
@[simp] theorem c5_30e : Sq c5_30 c5_29 .rt := sqE _ _
def c5_31 : EC := .sq c5_28 c5_30
@[simp] theorem c5_31e : Sq c5_31 c5_28 c5_30 := sqE _ _
def c5_32 : EC := .sq c5_23 c5_31
@[simp] theorem c5_32e : Sq c5_32 c5_23 c5_31 := sqE _ _
def c5_33 : EC := .sq c5_22 c5_32
@[simp] theorem c5_33e : Sq c5_33 c5_22 c5_32 := sqE _ _
def c5_34 : EC := .sq c5_5 c5_33
@[simp] theorem c5_34e : Sq c5_34 c5_5 c5_33 := sqE _ _
def c5_35 : EC := .sq c5_0 c5_34
@[simp] theorem c5_35e : Sq c5_35 c5_0 c5_34 := sqE _ _
def c_tallystonelaw52_NoteExplains_5 : EC := c5_35
theorem k_5 : ecF Try.prog 5 = some (75, c_tallystonelaw52_NoteExplains_5, [.tm 6]) := by kernel_rfl

/-- tallystone/tallystonelaw52.NoteAll -/
@[simp] def c7_0l : List EO := [o 2 .box [t 0],
 o 3 .box [t 1],
 o 4 .mv [b false]]
def c7_0 : EC := .rg c7_0l false
@[simp] theorem c7_0e : Rg c7_0 c7_0l false := rgE _ _
@[simp] def c7_1l : List EO := [o 9 (.call 12) [],
 o 10 (.un .not) [t 9],
 m 11 10,
 n 12 11 (.load 21 true) [t 2],
 n 13 11 (.faddr 0) [t 3],
 n 14 11 (.load 4 true) [t 13],
 n 15 11 (.faddr 4) [t 3],
 n 16 11 (.load 4 true) [t 15],
 n 17 11 (.call 13) [t 12, t 14, t 16],
 n 18 11 (.un .not) [t 17],
 o 19 .pick [t 11, b true, t 18]]
def c7_1 : EC := .rg c7_1l false
@[simp] theorem c7_1e : Rg c7_1 c7_1l false := rgE _ _
@[simp] def c7_2l : List EO := [o 20 (.call 12) [],
 m 4 20]
def c7_2 : EC := .rg c7_2l false
@[simp] theorem c7_2e : Rg c7_2 c7_2l false := rgE _ _
def c7_3 : EC := .sq c7_2 .rt
@[simp] theorem c7_3e : Sq c7_3 c7_2 .rt := sqE _ _
def c7_4 : EC := .cd (t 19) c7_3 .skip
@[simp] theorem c7_4e : Cd c7_4 (t 19) c7_3 .skip := cdE _ _ _
def c7_5 : EC := .sq c7_1 c7_4
@[simp] theorem c7_5e : Sq c7_5 c7_1 c7_4 := sqE _ _
@[simp] def c7_6l : List EO := [o 22 (.load 21 true) [t 2],
 o 23 (.faddr 0) [t 3],
 o 24 (.load 4 true) [t 23],
 o 25 (.faddr 4) [t 3],
 o 26 (.load 4 true) [t 25],
 o 27 (.call 21) [t 22, t 24, t 26],
 m 21 27,
 o 28 (.ext 0) [t 21],
 o 29 (.ext 1) [t 21],
 m 5 28,
 m 6 29]
def c7_6 : EC := .rg c7_6l false
@[simp] theorem c7_6e : Rg c7_6 c7_6l false := rgE _ _
@[simp] def c7_7l : List EO := [o 31 (.load 21 true) [t 2],
 o 32 (.faddr 0) [t 3],
 o 33 (.load 4 true) [t 32],
 o 34 (.faddr 4) [t 3],
 o 35 (.load 4 true) [t 34],
 o 36 (.call 22) [t 31, t 33, t 35],
 m 30 36,
 o 37 (.ext 0) [t 30],
 o 38 (.ext 1) [t 30],
 m 7 37,
 m 8 38]
def c7_7 : EC := .rg c7_7l false
@[simp] theorem c7_7e : Rg c7_7 c7_7l false := rgE _ _
@[simp] def c7_8l : List EO := [m 39 6,
 m 40 8,
 o 41 (.bin .eql) [t 39, t 40],
 m 42 41,
 y 43 42 .mv [t 5],
 y 44 42 (.call 24) [t 43],
 y 45 42 .mv [t 7],
 y 46 42 (.call 23) [t 44, t 45],
 o 47 .pick [t 42, t 46, b false],
 m 4 47]
def c7_8 : EC := .rg c7_8l false
@[simp] theorem c7_8e : Rg c7_8 c7_8l false := rgE _ _
def c7_9 : EC := .sq c7_8 .rt
@[simp] theorem c7_9e : Sq c7_9 c7_8 .rt := sqE _ _
def c7_10 : EC := .sq c7_7 c7_9
@[simp] theorem c7_10e : Sq c7_10 c7_7 c7_9 := sqE _ _
def c7_11 : EC := .sq c7_6 c7_10
@[simp] theorem c7_11e : Sq c7_11 c7_6 c7_10 := sqE _ _
def c7_12 : EC := .sq c7_5 c7_11
@[simp] theorem c7_12e : Sq c7_12 c7_5 c7_11 := sqE _ _
def c7_13 : EC := .sq c7_0 c7_12
@[simp] theorem c7_13e : Sq c7_13 c7_0 c7_12 := sqE _ _
def c_tallystonelaw52_NoteAll_7 : EC := c7_13
theorem k_7 : ecF Try.prog 7 = some (48, c_tallystonelaw52_NoteAll_7, [.tm 4]) := by kernel_rfl

/-- tallystone/tallystonelaw52.NoteBalance -/
@[simp] def c8_0l : List EO := [o 2 .box [t 0],
 o 3 .box [t 1],
 o 4 .mv [b false]]
def c8_0 : EC := .rg c8_0l false
@[simp] theorem c8_0e : Rg c8_0 c8_0l false := rgE _ _
@[simp] def c8_1l : List EO := [o 18 (.call 12) [],
 o 19 (.un .not) [t 18],
 m 20 19,
 n 21 20 (.load 21 true) [t 2],
 n 22 20 (.faddr 0) [t 3],
 n 23 20 (.load 4 true) [t 22],
 n 24 20 (.faddr 4) [t 3],
 n 25 20 (.load 4 true) [t 24],
 n 26 20 (.call 13) [t 21, t 23, t 25],
 n 27 20 (.un .not) [t 26],
 o 28 .pick [t 20, b true, t 27],
 m 29 28,
 n 30 29 (.load 21 true) [t 2],
 n 31 29 (.call 18) [t 30],
 n 32 29 (.un .not) [t 31],
 o 33 .pick [t 29, b true, t 32]]
def c8_1 : EC := .rg c8_1l false
@[simp] theorem c8_1e : Rg c8_1 c8_1l false := rgE _ _
@[simp] def c8_2l : List EO := [o 34 (.call 12) [],
 m 4 34]
def c8_2 : EC := .rg c8_2l false
@[simp] theorem c8_2e : Rg c8_2 c8_2l false := rgE _ _
def c8_3 : EC := .sq c8_2 .rt
@[simp] theorem c8_3e : Sq c8_3 c8_2 .rt := sqE _ _
def c8_4 : EC := .cd (t 33) c8_3 .skip
@[simp] theorem c8_4e : Cd c8_4 (t 33) c8_3 .skip := cdE _ _ _
def c8_5 : EC := .sq c8_1 c8_4
@[simp] theorem c8_5e : Sq c8_5 c8_1 c8_4 := sqE _ _
@[simp] def c8_6l : List EO := [o 35 (.faddr 0) [t 3],
 o 36 (.load 4 true) [t 35],
 o 37 (.faddr 4) [t 3],
 o 38 (.load 4 true) [t 37],
 o 39 (.bsl 4) [t 36, t 38],
 o 40 .lenL [t 39],
 o 41 .mv [i 0]]
def c8_6 : EC := .rg c8_6l false
@[simp] theorem c8_6e : Rg c8_6 c8_6l false := rgE _ _
@[simp] def c8_7l : List EO := [o 42 (.bin .lss) [t 41, t 40]]
def c8_7 : EC := .rg c8_7l false
@[simp] theorem c8_7e : Rg c8_7 c8_7l false := rgE _ _
def c8_8 : EC := .cd (t 42) .skip (.ex 0)
@[simp] theorem c8_8e : Cd c8_8 (t 42) .skip (.ex 0) := cdE _ _ _
@[simp] def c8_9l : List EO := [o 43 (.iaS 4) [t 39, t 41],
 o 44 (.load 4 true) [t 43],
 o 6 (.alloc [.t (.int .i64 0), .snil, .snil, .snil]) [],
 u (.store 4) [t 6, t 44]]
def c8_9 : EC := .rg c8_9l false
@[simp] theorem c8_9e : Rg c8_9 c8_9l false := rgE _ _
@[simp] def c8_10l : List EO := [o 7 .mv [i 0]]
def c8_10 : EC := .rg c8_10l false
@[simp] theorem c8_10e : Rg c8_10 c8_10l false := rgE _ _
@[simp] def c8_11l : List EO := [o 45 (.faddr 1) [t 6],
 o 46 (.load 1 false) [t 45],
 o 47 (.faddr 2) [t 6],
 o 48 (.load 1 false) [t 47],
 o 49 (.call 25) [t 46, t 48],
 o 50 .lenL [t 49],
 o 51 .mv [i 0]]
def c8_11 : EC := .rg c8_11l false
@[simp] theorem c8_11e : Rg c8_11 c8_11l false := rgE _ _
@[simp] def c8_12l : List EO := [o 52 (.bin .lss) [t 51, t 50]]
def c8_12 : EC := .rg c8_12l false
@[simp] theorem c8_12e : Rg c8_12 c8_12l false := rgE _ _
def c8_13 : EC := .cd (t 52) .skip (.ex 2)
@[simp] theorem c8_13e : Cd c8_13 (t 52) .skip (.ex 2) := cdE _ _ _
@[simp] def c8_14l : List EO := [o 53 (.iaS 2) [t 49, t 51],
 o 54 (.load 2 true) [t 53],
 o 9 (.alloc [.t (.int .i64 0), .t (.int .i64 0)]) [],
 u (.store 2) [t 9, t 54]]
def c8_14 : EC := .rg c8_14l false
@[simp] theorem c8_14e : Rg c8_14 c8_14l false := rgE _ _
@[simp] def c8_15l : List EO := [o 56 (.load 21 true) [t 2],
 o 57 (.faddr 0) [t 9],
 o 58 (.load 1 false) [t 57],
 o 59 (.call 26) [t 56, t 58],
 m 55 59,
 o 60 (.ext 0) [t 55],
 o 61 (.ext 1) [t 55],
 o 10 (.alloc [.t (.int .i64 0), .t (.int .i64 0), .t (.int .i64 0), .t (.int .i64 0)]) [],
 u (.store 4) [t 10, t 60],
 m 11 61]
def c8_15 : EC := .rg c8_15l false
@[simp] theorem c8_15e : Rg c8_15 c8_15l false := rgE _ _
@[simp] def c8_16l : List EO := [m 62 11,
 o 63 (.un .not) [t 62]]
def c8_16 : EC := .rg c8_16l false
@[simp] theorem c8_16e : Rg c8_16 c8_16l false := rgE _ _
@[simp] def c8_17l : List EO := [o 4 .mv [b true]]
def c8_17 : EC := .rg c8_17l false
@[simp] theorem c8_17e : Rg c8_17 c8_17l false := rgE _ _
def c8_18 : EC := .sq c8_17 .rt
@[simp] theorem c8_18e : Sq c8_18 c8_17 .rt := sqE _ _
def c8_19 : EC := .cd (t 63) c8_18 .skip
@[simp] theorem c8_19e : Cd c8_19 (t 63) c8_18 .skip := cdE _ _ _
def c8_20 : EC := .sq c8_16 c8_19
@[simp] theorem c8_20e : Sq c8_20 c8_16 c8_19 := sqE _ _
def c8_21 : EC := .sq c8_15 c8_20
@[simp] theorem c8_21e : Sq c8_21 c8_15 c8_20 := sqE _ _
@[simp] def c8_22l : List EO := [m 64 7,
 o 65 (.faddr 1) [t 9],
 o 66 (.load 1 false) [t 65],
 o 67 (.bin .add) [t 64, t 66],
 m 7 67]
def c8_22 : EC := .rg c8_22l false
@[simp] theorem c8_22e : Rg c8_22 c8_22l false := rgE _ _
def c8_23 : EC := .sq c8_21 c8_22
@[simp] theorem c8_23e : Sq c8_23 c8_21 c8_22 := sqE _ _
def c8_24 : EC := .sq c8_14 c8_23
@[simp] theorem c8_24e : Sq c8_24 c8_14 c8_23 := sqE _ _
def c8_25 : EC := .bk 3 c8_24
@[simp] theorem c8_25e : Bk c8_25 3 c8_24 := bkE _ _
@[simp] def c8_26l : List EO := [o 68 (.bin .add) [t 51, i 1],
 m 51 68]
def c8_26 : EC := .rg c8_26l false
@[simp] theorem c8_26e : Rg c8_26 c8_26l false := rgE _ _
def c8_27 : EC := .sq c8_25 c8_26
@[simp] theorem c8_27e : Sq c8_27 c8_25 c8_26 := sqE _ _
def c8_28 : EC := .sq c8_13 c8_27
@[simp] theorem c8_28e : Sq c8_28 c8_13 c8_27 := sqE _ _
def c8_29 : EC := .sq c8_12 c8_28
@[simp] theorem c8_29e : Sq c8_29 c8_12 c8_28 := sqE _ _
def c8_30 : EC := .bk 2 (.lp c8_29)
@[simp] theorem c8_30e : Bk c8_30 2 (.lp c8_29) := bkE _ _
def c8_31 : EC := .sq c8_11 c8_30
@[simp] theorem c8_31e : Sq c8_31 c8_11 c8_30 := sqE _ _
@[simp] def c8_32l : List EO := [m 69 7,
 o 70 (.bin .neq) [t 69, i 0]]
def c8_32 : EC := .rg c8_32l false
@[simp] theorem c8_32e : Rg c8_32 c8_32l false := rgE _ _
@[simp] def c8_33l : List EO := [o 4 .mv [b true]]
def c8_33 : EC := .rg c8_33l false
@[simp] theorem c8_33e : Rg c8_33 c8_33l false := rgE _ _
def c8_34 : EC := .sq c8_33 .rt
@[simp] theorem c8_34e : Sq c8_34 c8_33 .rt := sqE _ _
def c8_35 : EC := .cd (t 70) c8_34 .skip
@[simp] theorem c8_35e : Cd c8_35 (t 70) c8_34 .skip := cdE _ _ _
def c8_36 : EC := .sq c8_32 c8_35
@[simp] theorem c8_36e : Sq c8_36 c8_32 c8_35 := sqE _ _
def c8_37 : EC := .sq c8_31 c8_36
@[simp] theorem c8_37e : Sq c8_37 c8_31 c8_36 := sqE _ _
def c8_38 : EC := .sq c8_10 c8_37
@[simp] theorem c8_38e : Sq c8_38 c8_10 c8_37 := sqE _ _
def c8_39 : EC := .sq c8_9 c8_38
@[simp] theorem c8_39e : Sq c8_39 c8_9 c8_38 := sqE _ _
def c8_40 : EC := .bk 1 c8_39
@[simp] theorem c8_40e : Bk c8_40 1 c8_39 := bkE _ _
@[simp] def c8_41l : List EO := [o 71 (.bin .add) [t 41, i 1],
 m 41 71]
def c8_41 : EC := .rg c8_41l false
@[simp] theorem c8_41e : Rg c8_41 c8_41l false := rgE _ _
def c8_42 : EC := .sq c8_40 c8_41
@[simp] theorem c8_42e : Sq c8_42 c8_40 c8_41 := sqE _ _
def c8_43 : EC := .sq c8_8 c8_42
@[simp] theorem c8_43e : Sq c8_43 c8_8 c8_42 := sqE _ _
def c8_44 : EC := .sq c8_7 c8_43
@[simp] theorem c8_44e : Sq c8_44 c8_7 c8_43 := sqE _ _
def c8_45 : EC := .bk 0 (.lp c8_44)
@[simp] theorem c8_45e : Bk c8_45 0 (.lp c8_44) := bkE _ _
def c8_46 : EC := .sq c8_6 c8_45
@[simp] theorem c8_46e : Sq c8_46 c8_6 c8_45 := sqE _ _
@[simp] def c8_47l : List EO := [o 73 (.load 21 true) [t 2],
 o 74 (.faddr 0) [t 3],
 o 75 (.load 4 true) [t 74],
 o 76 (.faddr 4) [t 3],
 o 77 (.load 4 true) [t 76],
 o 78 (.call 21) [t 73, t 75, t 77],
 m 72 78,
 o 79 (.ext 0) [t 72],
 o 80 (.ext 1) [t 72],
 m 12 79,
 m 13 80]
def c8_47 : EC := .rg c8_47l false
@[simp] theorem c8_47e : Rg c8_47 c8_47l false := rgE _ _
@[simp] def c8_48l : List EO := [o 14 .mv [i 0],
 o 15 .mv [i 0]]
def c8_48 : EC := .rg c8_48l false
@[simp] theorem c8_48e : Rg c8_48 c8_48l false := rgE _ _
@[simp] def c8_49l : List EO := [m 81 12,
 o 82 .lenL [t 81],
 o 83 .mv [i 0]]
def c8_49 : EC := .rg c8_49l false
@[simp] theorem c8_49e : Rg c8_49 c8_49l false := rgE _ _
@[simp] def c8_50l : List EO := [o 84 (.bin .lss) [t 83, t 82]]
def c8_50 : EC := .rg c8_50l false
@[simp] theorem c8_50e : Rg c8_50 c8_50l false := rgE _ _
def c8_51 : EC := .cd (t 84) .skip (.ex 4)
@[simp] theorem c8_51e : Cd c8_51 (t 84) .skip (.ex 4) := cdE _ _ _
@[simp] def c8_52l : List EO := [o 85 (.iaS 16) [t 81, t 83],
 o 86 (.load 16 true) [t 85],
 o 17 (.alloc [.t (.int .i64 0), .t (.int .i64 0), .t (.int .i64 0), .t (.int .i64 0), .t (.int .i64 0), .t (.int .i64 0), .t (.int .i64 0), .t (.int .i64 0), .t (.int .i64 0), .t (.int .i64 0), .t (.int .i64 0), .t (.int .i64 0), .t (.int .i64 0), .t (.int .i64 0), .t (.int .i64 0), .t (.int .i64 0)]) [],
 u (.store 16) [t 17, t 86]]
def c8_52 : EC := .rg c8_52l false
@[simp] theorem c8_52e : Rg c8_52 c8_52l false := rgE _ _
@[simp] def c8_53l : List EO := [m 87 14,
 o 88 (.faddr 1) [t 17],
 o 89 (.load 1 false) [t 88],
 o 90 (.bin .add) [t 87, t 89],
 m 91 15,
 o 92 (.faddr 4) [t 17],
 o 93 (.load 1 false) [t 92],
 o 94 (.bin .add) [t 91, t 93],
 m 14 90,
 m 15 94]
def c8_53 : EC := .rg c8_53l true
@[simp] theorem c8_53e : Rg c8_53 c8_53l true := rgE _ _
def c8_54 : EC := .sq c8_52 c8_53
@[simp] theorem c8_54e : Sq c8_54 c8_52 c8_53 := sqE _ _
def c8_55 : EC := .bk 5 c8_54
@[simp] theorem c8_55e : Bk c8_55 5 c8_54 := bkE _ _
@[simp] def c8_56l : List EO := [o 95 (.bin .add) [t 83, i 1],
 m 83 95]
def c8_56 : EC := .rg c8_56l false
@[simp] theorem c8_56e : Rg c8_56 c8_56l false := rgE _ _
def c8_57 : EC := .sq c8_55 c8_56
@[simp] theorem c8_57e : Sq c8_57 c8_55 c8_56 := sqE _ _
def c8_58 : EC := .sq c8_51 c8_57
@[simp] theorem c8_58e : Sq c8_58 c8_51 c8_57 := sqE _ _
def c8_59 : EC := .sq c8_50 c8_58
@[simp] theorem c8_59e : Sq c8_59 c8_50 c8_58 := sqE _ _
def c8_60 : EC := .bk 4 (.lp c8_59)
@[simp] theorem c8_60e : Bk c8_60 4 (.lp c8_59) := bkE _ _
def c8_61 : EC := .sq c8_49 c8_60
@[simp] theorem c8_61e : Sq c8_61 c8_49 c8_60 := sqE _ _
@[simp] def c8_62l : List EO := [m 96 13,
 o 97 (.bin .neq) [t 96, i 0],
 m 98 97,
 n 99 98 .mv [t 14],
 n 100 98 (.bin .eql) [t 99, i 0],
 n 101 98 .mv [t 100],
 y 102 101 .mv [t 15],
 y 103 101 (.bin .eql) [t 102, i 0],
 n 104 98 .pick [t 101, t 103, b false],
 o 105 .pick [t 98, b true, t 104],
 m 4 105]
def c8_62 : EC := .rg c8_62l false
@[simp] theorem c8_62e : Rg c8_62 c8_62l false := rgE _ _
def c8_63 : EC := .sq c8_62 .rt
@[simp] theorem c8_63e : Sq c8_63 c8_62 .rt := sqE _ _
def c8_64 : EC := .sq c8_61 c8_63
@[simp] theorem c8_64e : Sq c8_64 c8_61 c8_63 := sqE _ _
def c8_65 : EC := .sq c8_48 c8_64
@[simp] theorem c8_65e : Sq c8_65 c8_48 c8_64 := sqE _ _
def c8_66 : EC := .sq c8_47 c8_65
@[simp] theorem c8_66e : Sq c8_66 c8_47 c8_65 := sqE _ _
def c8_67 : EC := .sq c8_46 c8_66
@[simp] theorem c8_67e : Sq c8_67 c8_46 c8_66 := sqE _ _
def c8_68 : EC := .sq c8_5 c8_67
@[simp] theorem c8_68e : Sq c8_68 c8_5 c8_67 := sqE _ _
def c8_69 : EC := .sq c8_0 c8_68
@[simp] theorem c8_69e : Sq c8_69 c8_0 c8_68 := sqE _ _
def c_tallystonelaw52_NoteBalance_8 : EC := c8_69
theorem k_8 : ecF Try.prog 8 = some (106, c_tallystonelaw52_NoteBalance_8, [.tm 4]) := by kernel_rfl

/-- tallystone/tallystonelaw52.NoteOrder -/
@[simp] def c9_0l : List EO := [o 2 .box [t 0],
 o 3 .box [t 1],
 o 4 .mv [b false]]
def c9_0 : EC := .rg c9_0l false
@[simp] theorem c9_0e : Rg c9_0 c9_0l false := rgE _ _
@[simp] def c9_1l : List EO := [o 10 (.call 12) [],
 o 11 (.un .not) [t 10],
 m 12 11,
 n 13 12 (.load 21 true) [t 2],
 n 14 12 (.faddr 0) [t 3],
 n 15 12 (.load 4 true) [t 14],
 n 16 12 (.faddr 4) [t 3],
 n 17 12 (.load 4 true) [t 16],
 n 18 12 (.call 13) [t 13, t 15, t 17],
 n 19 12 (.un .not) [t 18],
 o 20 .pick [t 12, b true, t 19]]
def c9_1 : EC := .rg c9_1l false
@[simp] theorem c9_1e : Rg c9_1 c9_1l false := rgE _ _
@[simp] def c9_2l : List EO := [o 21 (.call 12) [],
 m 4 21]
def c9_2 : EC := .rg c9_2l false
@[simp] theorem c9_2e : Rg c9_2 c9_2l false := rgE _ _
def c9_3 : EC := .sq c9_2 .rt
@[simp] theorem c9_3e : Sq c9_3 c9_2 .rt := sqE _ _
def c9_4 : EC := .cd (t 20) c9_3 .skip
@[simp] theorem c9_4e : Cd c9_4 (t 20) c9_3 .skip := cdE _ _ _
def c9_5 : EC := .sq c9_1 c9_4
@[simp] theorem c9_5e : Sq c9_5 c9_1 c9_4 := sqE _ _
@[simp] def c9_6l : List EO := [o 5 .mv [c (.fn (.func 27) [])]]
def c9_6 : EC := .rg c9_6l false
@[simp] theorem c9_6e : Rg c9_6 c9_6l false := rgE _ _
@[simp] def c9_7l : List EO := [o 23 (.load 21 true) [t 2],
 o 24 (.faddr 0) [t 3],
 o 25 (.load 4 true) [t 24],
 o 26 (.faddr 4) [t 3],
 o 27 (.load 4 true) [t 26],
 o 28 (.call 21) [t 23, t 25, t 27],
 m 22 28,
 o 29 (.ext 0) [t 22],
 o 30 (.ext 1) [t 22],
 m 6 29,
 m 7 30]
def c9_7 : EC := .rg c9_7l false
@[simp] theorem c9_7e : Rg c9_7 c9_7l false := rgE _ _
@[simp] def c9_8l : List EO := [o 32 (.load 21 true) [t 2],
 m 33 5,
 o 34 (.faddr 0) [t 3],
 o 35 (.load 4 true) [t 34],
 o 36 .callv [t 33, t 35],
 m 37 5,
 o 38 (.faddr 4) [t 3],
 o 39 (.load 4 true) [t 38],
 o 40 .callv [t 37, t 39],
 o 41 (.call 21) [t 32, t 36, t 40],
 m 31 41,
 o 42 (.ext 0) [t 31],
 o 43 (.ext 1) [t 31],
 m 8 42,
 m 9 43]
def c9_8 : EC := .rg c9_8l true
@[simp] theorem c9_8e : Rg c9_8 c9_8l true := rgE _ _
@[simp] def c9_9l : List EO := [m 44 7,
 m 45 9,
 o 46 (.bin .eql) [t 44, t 45],
 m 47 46,
 y 48 47 .mv [t 6],
 y 49 47 (.call 24) [t 48],
 y 50 47 .mv [t 8],
 y 51 47 (.call 24) [t 50],
 y 52 47 (.call 23) [t 49, t 51],
 o 53 .pick [t 47, t 52, b false],
 m 4 53]
def c9_9 : EC := .rg c9_9l false
@[simp] theorem c9_9e : Rg c9_9 c9_9l false := rgE _ _
def c9_10 : EC := .sq c9_9 .rt
@[simp] theorem c9_10e : Sq c9_10 c9_9 .rt := sqE _ _
def c9_11 : EC := .sq c9_8 c9_10
@[simp] theorem c9_11e : Sq c9_11 c9_8 c9_10 := sqE _ _
def c9_12 : EC := .sq c9_7 c9_11
@[simp] theorem c9_12e : Sq c9_12 c9_7 c9_11 := sqE _ _
def c9_13 : EC := .sq c9_6 c9_12
@[simp] theorem c9_13e : Sq c9_13 c9_6 c9_12 := sqE _ _
def c9_14 : EC := .sq c9_5 c9_13
@[simp] theorem c9_14e : Sq c9_14 c9_5 c9_13 := sqE _ _
def c9_15 : EC := .sq c9_0 c9_14
@[simp] theorem c9_15e : Sq c9_15 c9_0 c9_14 := sqE _ _
def c_tallystonelaw52_NoteOrder_9 : EC := c9_15
theorem k_9 : ecF Try.prog 9 = some (54, c_tallystonelaw52_NoteOrder_9, [.tm 4]) := by kernel_rfl

/-- tallystone/shell.Name -/
@[simp] def c10_0l : List EO := [o 2 .mv [c (.t (.str []))]]
def c10_0 : EC := .rg c10_0l false
@[simp] theorem c10_0e : Rg c10_0 c10_0l false := rgE _ _
@[simp] def c10_1l : List EO := [o 4 (.build [.t (.str []), .t (.str []), .t (.str []), .t (.str []), .t (.str []), .t (.str []), .t (.str []), .t (.str []), .t (.str []), .t (.str []), .t (.str []), .t (.str []), .t (.str []), .t (.str []), .t (.str []), .t (.str []), .t (.str []), .t (.str []), .t (.str []), .t (.str [])] [(0, 1), (1, 1), (2, 1), (3, 1), (4, 1), (5, 1), (6, 1), (7, 1), (8, 1), (9, 1), (10, 1), (11, 1), (12, 1), (13, 1), (14, 1), (15, 1), (16, 1), (17, 1), (18, 1), (19, 1)]) [c (.t (.str [111, 107])), c (.t (.str [97, 114, 103, 117, 109, 101, 110, 116])), c (.t (.str [114, 97, 110, 103, 101])), c (.t (.str [115, 121, 110, 116, 97, 120])), c (.t (.str [102, 111, 114, 109])), c (.t (.str [115, 117, 109])), c (.t (.str [108, 105, 109, 105, 116])), c (.t (.str [115, 116, 97, 116, 101])), c (.t (.str [110, 111, 110, 101])), c (.t (.str [100, 117, 112, 108, 105, 99, 97, 116, 101])), c (.t (.str [100, 105, 118, 105, 100, 101])), c (.t (.str [117, 110, 98, 97, 108, 97, 110, 99, 101, 100])), c (.t (.str [108, 111, 99, 107, 101, 100])), c (.t (.str [114, 97, 116, 101])), c (.t (.str [115, 105, 110, 103, 117, 108, 97, 114])), c (.t (.str [109, 97, 112, 112, 105, 110, 103])), c (.t (.str [116, 121, 112, 101])), c (.t (.str [117, 110, 107, 110, 111, 119, 110])), c (.t (.str [99, 111, 110, 102, 108, 105, 99, 116])), c (.t (.str [116, 111, 114, 110]))],
 o 3 (.alloc [.t (.str []), .t (.str []), .t (.str []), .t (.str []), .t (.str []), .t (.str []), .t (.str []), .t (.str []), .t (.str []), .t (.str []), .t (.str []), .t (.str []), .t (.str []), .t (.str []), .t (.str []), .t (.str []), .t (.str []), .t (.str []), .t (.str []), .t (.str [])]) [],
 u (.store 20) [t 3, t 4]]
def c10_1 : EC := .rg c10_1l false
@[simp] theorem c10_1e : Rg c10_1 c10_1l false := rgE _ _
@[simp] def c10_2l : List EO := [m 5 0,
 o 6 (.bin .lss) [t 5, i 0],
 m 7 6,
 n 8 7 .mv [t 0],
 n 9 7 (.bin .geq) [t 8, i 20],
 o 10 .pick [t 7, b true, t 9]]
def c10_2 : EC := .rg c10_2l false
@[simp] theorem c10_2e : Rg c10_2 c10_2l false := rgE _ _
@[simp] def c10_3l : List EO := [o 2 .mv [c (.t (.str []))]]
def c10_3 : EC := .rg c10_3l false
@[simp] theorem c10_3e : Rg c10_3 c10_3l false := rgE _ _
def c10_4 : EC := .sq c10_3 .rt
@[simp] theorem c10_4e : Sq c10_4 c10_3 .rt := sqE _ _
def c10_5 : EC := .cd (t 10) c10_4 .skip
@[simp] theorem c10_5e : Cd c10_5 (t 10) c10_4 .skip := cdE _ _ _
def c10_6 : EC := .sq c10_2 c10_5
@[simp] theorem c10_6e : Sq c10_6 c10_2 c10_5 := sqE _ _
@[simp] def c10_7l : List EO := [m 11 0,
 o 12 (.iaA 20 1) [t 3, t 11],
 o 13 (.load 1 false) [t 12],
 m 2 13]
def c10_7 : EC := .rg c10_7l false
@[simp] theorem c10_7e : Rg c10_7 c10_7l false := rgE _ _
def c10_8 : EC := .sq c10_7 .rt
@[simp] theorem c10_8e : Sq c10_8 c10_7 .rt := sqE _ _
def c10_9 : EC := .sq c10_6 c10_8
@[simp] theorem c10_9e : Sq c10_9 c10_6 c10_8 := sqE _ _
def c10_10 : EC := .sq c10_1 c10_9
@[simp] theorem c10_10e : Sq c10_10 c10_1 c10_9 := sqE _ _
def c10_11 : EC := .sq c10_0 c10_10
@[simp] theorem c10_11e : Sq c10_11 c10_0 c10_10 := sqE _ _
def c_shell_Name_10 : EC := c10_11
theorem k_10 : ecF Try.prog 10 = some (14, c_shell_Name_10, [.tm 2]) := by kernel_rfl

/-- tallystone/tallystoneref58.Name -/
@[simp] def c11_0l : List EO := [o 2 .mv [c (.t (.str []))]]
def c11_0 : EC := .rg c11_0l false
@[simp] theorem c11_0e : Rg c11_0 c11_0l false := rgE _ _
@[simp] def c11_1l : List EO := [o 4 (.bsl 1) [c (.t (.str [111, 107])), c (.t (.str [97, 114, 103, 117, 109, 101, 110, 116])), c (.t (.str [114, 97, 110, 103, 101])), c (.t (.str [115, 121, 110, 116, 97, 120])), c (.t (.str [102, 111, 114, 109])), c (.t (.str [115, 117, 109])), c (.t (.str [108, 105, 109, 105, 116])), c (.t (.str [115, 116, 97, 116, 101])), c (.t (.str [110, 111, 110, 101])), c (.t (.str [100, 117, 112, 108, 105, 99, 97, 116, 101])), c (.t (.str [100, 105, 118, 105, 100, 101])), c (.t (.str [117, 110, 98, 97, 108, 97, 110, 99, 101, 100])), c (.t (.str [108, 111, 99, 107, 101, 100])), c (.t (.str [114, 97, 116, 101])), c (.t (.str [115, 105, 110, 103, 117, 108, 97, 114])), c (.t (.str [109, 97, 112, 112, 105, 110, 103])), c (.t (.str [116, 121, 112, 101])), c (.t (.str [117, 110, 107, 110, 111, 119, 110])), c (.t (.str [99, 111, 110, 102, 108, 105, 99, 116])), c (.t (.str [116, 111, 114, 110]))],
 m 3 4]
def c11_1 : EC := .rg c11_1l false
@[simp] theorem c11_1e : Rg c11_1 c11_1l false := rgE _ _
@[simp] def c11_2l : List EO := [m 5 0,
 o 6 (.bin .lss) [t 5, i 0],
 m 7 6,
 n 8 7 .mv [t 0],
 n 9 7 .mv [t 3],
 n 10 7 .lenL [t 9],
 n 11 7 (.bin .geq) [t 8, t 10],
 o 12 .pick [t 7, b true, t 11]]
def c11_2 : EC := .rg c11_2l false
@[simp] theorem c11_2e : Rg c11_2 c11_2l false := rgE _ _
@[simp] def c11_3l : List EO := [o 2 .mv [c (.t (.str []))]]
def c11_3 : EC := .rg c11_3l false
@[simp] theorem c11_3e : Rg c11_3 c11_3l false := rgE _ _
def c11_4 : EC := .sq c11_3 .rt
@[simp] theorem c11_4e : Sq c11_4 c11_3 .rt := sqE _ _
def c11_5 : EC := .cd (t 12) c11_4 .skip
@[simp] theorem c11_5e : Cd c11_5 (t 12) c11_4 .skip := cdE _ _ _
def c11_6 : EC := .sq c11_2 c11_5
@[simp] theorem c11_6e : Sq c11_6 c11_2 c11_5 := sqE _ _
@[simp] def c11_7l : List EO := [m 13 3,
 m 14 0,
 o 15 (.iaS 1) [t 13, t 14],
 o 16 (.load 1 false) [t 15],
 m 2 16]
def c11_7 : EC := .rg c11_7l false
@[simp] theorem c11_7e : Rg c11_7 c11_7l false := rgE _ _
def c11_8 : EC := .sq c11_7 .rt
@[simp] theorem c11_8e : Sq c11_8 c11_7 .rt := sqE _ _
def c11_9 : EC := .sq c11_6 c11_8
@[simp] theorem c11_9e : Sq c11_9 c11_6 c11_8 := sqE _ _
def c11_10 : EC := .sq c11_1 c11_9
@[simp] theorem c11_10e : Sq c11_10 c11_1 c11_9 := sqE _ _
def c11_11 : EC := .sq c11_0 c11_10
@[simp] theorem c11_11e : Sq c11_11 c11_0 c11_10 := sqE _ _
def c_tallystoneref58_Name_11 : EC := c11_11
theorem k_11 : ecF Try.prog 11 = some (17, c_tallystoneref58_Name_11, [.tm 2]) := by kernel_rfl

/-- tallystone/tallystonelaw52.awake -/
@[simp] def c12_0l : List EO := [o 0 .mv [b false]]
def c12_0 : EC := .rg c12_0l false
@[simp] theorem c12_0e : Rg c12_0 c12_0l false := rgE _ _
@[simp] def c12_1l : List EO := [o 5 (.build [.t (.int .i64 0), .t (.int .i64 0), .t (.int .i64 0), .t (.int .i64 0), .t (.int .i64 0), .t (.int .i64 0), .t (.int .i64 0)] [(3, 1), (5, 1), (6, 1)]) [i 1010, i 20460, i 100],
 o 6 (.bsl 7) [t 5],
 o 7 (.build [.t (.int .i64 0), .snil, .snil, .snil] [(1, 1)]) [t 6],
 o 1 (.alloc [.t (.int .i64 0), .snil, .snil, .snil]) [],
 u (.store 4) [t 1, t 7]]
def c12_1 : EC := .rg c12_1l false
@[simp] theorem c12_1e : Rg c12_1 c12_1l false := rgE _ _
@[simp] def c12_2l : List EO := [o 8 (.build [.t (.int .i64 0), .t (.int .i64 0), .t (.int .i64 0), .t (.int .i64 0), .t (.int .i64 0), .t (.int .i64 0), .t (.int .i64 0)] [(3, 1), (5, 1), (6, 1)]) [i 1010, i 20460, i 95],
 o 9 (.build [.t (.int .i64 0), .t (.int .i64 0), .t (.int .i64 0), .t (.int .i64 0), .t (.int .i64 0), .t (.int .i64 0), .t (.int .i64 0)] [(3, 1), (5, 1), (6, 1)]) [i 1010, i 20490, i 30],
 o 10 (.bsl 7) [t 8, t 9],
 o 11 (.build [.t (.int .i64 0), .t (.int .i64 0)] [(0, 1), (1, 1)]) [i 1010, i (-30)],
 o 12 (.bsl 2) [t 11],
 o 13 (.build [.t (.int .i64 0), .t (.int .i64 0), .t (.int .i64 0), .t (.int .i64 0), .snil] [(0, 1), (4, 1)]) [i 3, t 12],
 o 14 (.bsl 5) [t 13],
 o 15 (.build [.t (.int .i64 0), .snil, .snil, .snil] [(0, 1), (1, 1), (2, 1)]) [i 1, t 10, t 14],
 o 2 (.alloc [.t (.int .i64 0), .snil, .snil, .snil]) [],
 u (.store 4) [t 2, t 15]]
def c12_2 : EC := .rg c12_2l false
@[simp] theorem c12_2e : Rg c12_2 c12_2l false := rgE _ _
@[simp] def c12_3l : List EO := [o 17 (.call 28) [],
 o 18 (.load 4 true) [t 1],
 o 19 (.load 4 true) [t 2],
 o 20 (.call 14) [t 17, t 18, t 19, i 1010],
 m 16 20,
 o 21 (.ext 0) [t 16],
 o 22 (.ext 1) [t 16],
 o 3 (.alloc [.t (.int .i64 0), .t (.int .i64 0), .t (.int .i64 0), .t (.int .i64 0), .t (.int .i64 0), .t (.int .i64 0), .t (.int .i64 0), .t (.int .i64 0), .t (.int .i64 0), .t (.int .i64 0), .t (.int .i64 0), .t (.int .i64 0), .t (.int .i64 0), .t (.int .i64 0), .t (.int .i64 0), .t (.int .i64 0)]) [],
 u (.store 16) [t 3, t 21],
 m 4 22]
def c12_3 : EC := .rg c12_3l true
@[simp] theorem c12_3e : Rg c12_3 c12_3l true := rgE _ _
@[simp] def c12_4l : List EO := [m 23 4,
 o 24 (.bin .eql) [t 23, i 0],
 m 25 24,
 y 26 25 (.load 16 true) [t 3],
 y 27 25 (.build [.t (.int .i64 0), .t (.int .i64 0), .t (.int .i64 0), .t (.int .i64 0), .t (.int .i64 0), .t (.int .i64 0), .t (.int .i64 0), .t (.int .i64 0), .t (.int .i64 0), .t (.int .i64 0), .t (.int .i64 0)] [(3, 1)]) [i (-30)],
 y 28 25 (.build [.t (.int .i64 0), .t (.int .i64 0), .t (.int .i64 0), .t (.int .i64 0), .t (.int .i64 0), .t (.int .i64 0), .t (.int .i64 0), .t (.int .i64 0), .t (.int .i64 0), .t (.int .i64 0), .t (.int .i64 0), .t (.int .i64 0), .t (.int .i64 0), .t (.int .i64 0), .t (.int .i64 0), .t (.int .i64 0)] [(0, 1), (1, 1), (2, 1), (3, 1), (4, 1), (5, 11)]) [i 1010, i 100, i 30, i (-5), i 95, t 27],
 y 29 25 (.eqv false true [1, 1, 1, 1, 1, 1, 1, 1, 1, 1, 1, 1, 1, 1, 1, 1]) [t 26, t 28],
 o 30 .pick [t 25, t 29, b false],
 m 0 30]
def c12_4 : EC := .rg c12_4l false
@[simp] theorem c12_4e : Rg c12_4 c12_4l false := rgE _ _
def c12_5 : EC := .sq c12_4 .rt
@[simp] theorem c12_5e : Sq c12_5 c12_4 .rt := sqE _ _
def c12_6 : EC := .sq c12_3 c12_5
@[simp] theorem c12_6e : Sq c12_6 c12_3 c12_5 := sqE _ _
def c12_7 : EC := .sq c12_2 c12_6
@[simp] theorem c12_7e : Sq c12_7 c12_2 c12_6 := sqE _ _
def c12_8 : EC := .sq c12_1 c12_7
@[simp] theorem c12_8e : Sq c12_8 c12_1 c12_7 := sqE _ _
def c12_9 : EC := .sq c12_0 c12_8
@[simp] theorem c12_9e : Sq c12_9 c12_0 c12_8 := sqE _ _
def c_tallystonelaw52_awake_12 : EC := c12_9
theorem k_12 : ecF Try.prog 12 = some (31, c_tallystonelaw52_awake_12, [.tm 0]) := by kernel_rfl

/-- tallystone/tallystonelaw52.few -/
@[simp] def c13_0l : List EO := [o 3 .box [t 0],
 o 4 .box [t 1],
 o 5 .box [t 2],
 o 6 .mv [b false]]
def c13_0 : EC := .rg c13_0l false
@[simp] theorem c13_0e : Rg c13_0 c13_0l false := rgE _ _
@[simp] def c13_1l : List EO := [o 7 (.load 21 true) [t 3],
 o 8 (.call 29) [t 7],
 m 9 8,
 y 10 9 (.load 4 true) [t 4],
 y 11 9 (.call 30) [t 10],
 o 12 .pick [t 9, t 11, b false],
 m 13 12,
 y 14 13 (.load 4 true) [t 5],
 y 15 13 (.call 30) [t 14],
 o 16 .pick [t 13, t 15, b false],
 m 6 16]
def c13_1 : EC := .rg c13_1l false
@[simp] theorem c13_1e : Rg c13_1 c13_1l false := rgE _ _
def c13_2 : EC := .sq c13_1 .rt
@[simp] theorem c13_2e : Sq c13_2 c13_1 .rt := sqE _ _
def c13_3 : EC := .sq c13_0 c13_2
@[simp] theorem c13_3e : Sq c13_3 c13_0 c13_2 := sqE _ _
def c_tallystonelaw52_few_13 : EC := c13_3
theorem k_13 : ecF Try.prog 13 = some (17, c_tallystonelaw52_few_13, [.tm 6]) := by kernel_rfl

/-- tallystone/note.Make -/
@[simp] def c14_0l : List EO := [o 4 .box [t 0],
 o 5 .box [t 1],
 o 6 .box [t 2],
 o 8 (.alloc [.t (.int .i64 0), .t (.int .i64 0), .t (.int .i64 0), .t (.int .i64 0), .t (.int .i64 0), .t (.int .i64 0), .t (.int .i64 0), .t (.int .i64 0), .t (.int .i64 0), .t (.int .i64 0), .t (.int .i64 0), .t (.int .i64 0), .t (.int .i64 0), .t (.int .i64 0), .t (.int .i64 0), .t (.int .i64 0)]) [],
 o 9 .mv [i 0]]
def c14_0 : EC := .rg c14_0l false
@[simp] theorem c14_0e : Rg c14_0 c14_0l false := rgE _ _
@[simp] def c14_1l : List EO := [o 18 (.load 21 true) [t 4],
 o 19 (.faddr 0) [t 6],
 o 20 (.load 1 false) [t 19],
 o 21 (.call 31) [t 18, t 20],
 m 17 21,
 o 22 (.ext 0) [t 17],
 o 23 (.ext 1) [t 17],
 o 24 (.ext 2) [t 17],
 m 10 22,
 m 11 23,
 m 12 24]
def c14_1 : EC := .rg c14_1l false
@[simp] theorem c14_1e : Rg c14_1 c14_1l false := rgE _ _
@[simp] def c14_2l : List EO := [m 25 12,
 o 26 (.bin .neq) [t 25, i 0]]
def c14_2 : EC := .rg c14_2l false
@[simp] theorem c14_2e : Rg c14_2 c14_2l false := rgE _ _
@[simp] def c14_3l : List EO := [o 27 (.build [.t (.int .i64 0), .t (.int .i64 0), .t (.int .i64 0), .t (.int .i64 0), .t (.int .i64 0), .t (.int .i64 0), .t (.int .i64 0), .t (.int .i64 0), .t (.int .i64 0), .t (.int .i64 0), .t (.int .i64 0), .t (.int .i64 0), .t (.int .i64 0), .t (.int .i64 0), .t (.int .i64 0), .t (.int .i64 0)] []) [],
 m 28 12,
 u (.store 16) [t 8, t 27],
 m 9 28]
def c14_3 : EC := .rg c14_3l false
@[simp] theorem c14_3e : Rg c14_3 c14_3l false := rgE _ _
def c14_4 : EC := .sq c14_3 .rt
@[simp] theorem c14_4e : Sq c14_4 c14_3 .rt := sqE _ _
def c14_5 : EC := .cd (t 26) c14_4 .skip
@[simp] theorem c14_5e : Cd c14_5 (t 26) c14_4 .skip := cdE _ _ _
def c14_6 : EC := .sq c14_2 c14_5
@[simp] theorem c14_6e : Sq c14_6 c14_2 c14_5 := sqE _ _
@[simp] def c14_7l : List EO := [o 30 (.load 21 true) [t 4],
 m 31 3,
 o 32 (.call 32) [t 30, t 31],
 m 29 32,
 o 33 (.ext 0) [t 29],
 o 34 (.ext 1) [t 29],
 o 13 (.alloc [.t (.int .i64 0), .t (.int .i64 0), .t (.int .i64 0), .t (.int .i64 0)]) [],
 u (.store 4) [t 13, t 33],
 m 14 34]
def c14_7 : EC := .rg c14_7l false
@[simp] theorem c14_7e : Rg c14_7 c14_7l false := rgE _ _
@[simp] def c14_8l : List EO := [m 35 14,
 o 36 (.un .not) [t 35]]
def c14_8 : EC := .rg c14_8l false
@[simp] theorem c14_8e : Rg c14_8 c14_8l false := rgE _ _
@[simp] def c14_9l : List EO := [o 37 (.build [.t (.int .i64 0), .t (.int .i64 0), .t (.int .i64 0), .t (.int .i64 0), .t (.int .i64 0), .t (.int .i64 0), .t (.int .i64 0), .t (.int .i64 0), .t (.int .i64 0), .t (.int .i64 0), .t (.int .i64 0), .t (.int .i64 0), .t (.int .i64 0), .t (.int .i64 0), .t (.int .i64 0), .t (.int .i64 0)] []) [],
 u (.store 16) [t 8, t 37],
 o 9 .mv [i 8]]
def c14_9 : EC := .rg c14_9l false
@[simp] theorem c14_9e : Rg c14_9 c14_9l false := rgE _ _
def c14_10 : EC := .sq c14_9 .rt
@[simp] theorem c14_10e : Sq c14_10 c14_9 .rt := sqE _ _
def c14_11 : EC := .cd (t 36) c14_10 .skip
@[simp] theorem c14_11e : Cd c14_11 (t 36) c14_10 .skip := cdE _ _ _
def c14_12 : EC := .sq c14_8 c14_11
@[simp] theorem c14_12e : Sq c14_12 c14_8 c14_11 := sqE _ _
def c14_13 : EC := .sq c14_7 c14_12
@[simp] theorem c14_13e : Sq c14_13 c14_7 c14_12 := sqE _ _
@[simp] def c14_14l : List EO := [m 38 3,
 o 39 (.build [.t (.int .i64 0), .t (.int .i64 0), .t (.int .i64 0), .t (.int .i64 0), .t (.int .i64 0), .t (.int .i64 0), .t (.int .i64 0), .t (.int .i64 0), .t (.int .i64 0), .t (.int .i64 0), .t (.int .i64 0), .t (.int .i64 0), .t (.int .i64 0), .t (.int .i64 0), .t (.int .i64 0), .t (.int .i64 0)] [(0, 1)]) [t 38],
 o 15 (.alloc [.t (.int .i64 0), .t (.int .i64 0), .t (.int .i64 0), .t (.int .i64 0), .t (.int .i64 0), .t (.int .i64 0), .t (.int .i64 0), .t (.int .i64 0), .t (.int .i64 0), .t (.int .i64 0), .t (.int .i64 0), .t (.int .i64 0), .t (.int .i64 0), .t (.int .i64 0), .t (.int .i64 0), .t (.int .i64 0)]) [],
 u (.store 16) [t 15, t 39]]
def c14_14 : EC := .rg c14_14l false
@[simp] theorem c14_14e : Rg c14_14 c14_14l false := rgE _ _
@[simp] def c14_15l : List EO := [m 40 10,
 m 41 11,
 o 42 (.build [.t (.nilp), .t (.int .i64 0), .t (.int .i64 0)] [(0, 1), (1, 1), (2, 1)]) [t 15, t 40, t 41],
 o 16 (.alloc [.t (.nilp), .t (.int .i64 0), .t (.int .i64 0)]) [],
 u (.store 3) [t 16, t 42]]
def c14_15 : EC := .rg c14_15l false
@[simp] theorem c14_15e : Rg c14_15 c14_15l false := rgE _ _
@[simp] def c14_16l : List EO := [o 43 (.load 3 true) [t 16],
 o 44 (.load 4 true) [t 5],
 o 45 (.call 33) [t 43, t 44]]
def c14_16 : EC := .rg c14_16l false
@[simp] theorem c14_16e : Rg c14_16 c14_16l false := rgE _ _
@[simp] def c14_17l : List EO := [o 46 (.load 3 true) [t 16],
 o 47 (.load 4 true) [t 6],
 o 48 (.call 34) [t 46, t 47]]
def c14_17 : EC := .rg c14_17l false
@[simp] theorem c14_17e : Rg c14_17 c14_17l false := rgE _ _
@[simp] def c14_18l : List EO := [o 49 (.load 16 true) [t 15],
 o 50 (.call 36) [t 49],
 o 51 (.call 35) [t 50, c (.fn (.func 37) [])]]
def c14_18 : EC := .rg c14_18l false
@[simp] theorem c14_18e : Rg c14_18 c14_18l false := rgE _ _
@[simp] def c14_19l : List EO := [o 52 (.build [.t (.int .i64 0), .t (.int .i64 0), .t (.int .i64 0), .t (.int .i64 0), .t (.int .i64 0), .t (.int .i64 0), .t (.int .i64 0), .t (.int .i64 0), .t (.int .i64 0), .t (.int .i64 0), .t (.int .i64 0), .t (.int .i64 0), .t (.int .i64 0), .t (.int .i64 0), .t (.int .i64 0), .t (.int .i64 0)] []) [],
 u (.store 16) [t 8, t 52],
 o 9 .mv [i 2]]
def c14_19 : EC := .rg c14_19l false
@[simp] theorem c14_19e : Rg c14_19 c14_19l false := rgE _ _
def c14_20 : EC := .sq c14_19 .rt
@[simp] theorem c14_20e : Sq c14_20 c14_19 .rt := sqE _ _
def c14_21 : EC := .cd (t 51) c14_20 .skip
@[simp] theorem c14_21e : Cd c14_21 (t 51) c14_20 .skip := cdE _ _ _
def c14_22 : EC := .sq c14_18 c14_21
@[simp] theorem c14_22e : Sq c14_22 c14_18 c14_21 := sqE _ _
@[simp] def c14_23l : List EO := [o 53 (.load 16 true) [t 15],
 u (.store 16) [t 8, t 53],
 o 9 .mv [i 0]]
def c14_23 : EC := .rg c14_23l false
@[simp] theorem c14_23e : Rg c14_23 c14_23l false := rgE _ _
def c14_24 : EC := .sq c14_23 .rt
@[simp] theorem c14_24e : Sq c14_24 c14_23 .rt := sqE _ _
def c14_25 : EC := .sq c14_22 c14_24
@[simp] theorem c14_25e : Sq c14_25 c14_22 c14_24 := sqE _ _
def c14_26 : EC := .sq c14_17 c14_25
@[simp] theorem c14_26e : Sq c14_26 c14_17 c14_25 := sqE _ _
def c14_27 : EC := .sq c14_16 c14_26
@[simp] theorem c14_27e : Sq c14_27 c14_16 c14_26 := sqE _ _
def c14_28 : EC := .sq c14_15 c14_27
@[simp] theorem c14_28e : Sq c14_28 c14_15 c14_27 := sqE _ _
def c14_29 : EC := .sq c14_14 c14_28
@[simp] theorem c14_29e : Sq c14_29 c14_14 c14_28 := sqE _ _
def c14_30 : EC := .sq c14_13 c14_29
@[simp] theorem c14_30e : Sq c14_30 c14_13 c14_29 := sqE _ _
def c14_31 : EC := .sq c14_6 c14_30
@[simp] theorem c14_31e : Sq c14_31 c14_6 c14_30 := sqE _ _
def c14_32 : EC := .sq c14_1 c14_31
@[simp] theorem c14_32e : Sq c14_32 c14_1 c14_31 := sqE _ _
def c14_33 : EC := .sq c14_0 c14_32
@[simp] theorem c14_33e : Sq c14_33 c14_0 c14_32 := sqE _ _
def c_note_Make_14 : EC := c14_33
theorem k_14 : ecF Try.prog 14 = some (54, c_note_Make_14, [.ce 8 16 true, .tm 9]) := by kernel_rfl

/-- tallystone/tallystoneref52.Make -/
@[simp] def c15_0l : List EO := [o 4 .box [t 0],
 o 5 .box [t 1],
 o 6 .box [t 2],
 o 8 (.alloc [.t (.int .i64 0), .t (.int .i64 0), .t (.int .i64 0), .t (.int .i64 0), .t (.int .i64 0), .t (.int .i64 0), .t (.int .i64 0), .t (.int .i64 0), .t (.int .i64 0), .t (.int .i64 0), .t (.int .i64 0), .t (.int .i64 0), .t (.int .i64 0), .t (.int .i64 0), .t (.int .i64 0), .t (.int .i64 0)]) [],
 o 9 .mv [i 0]]
def c15_0 : EC := .rg c15_0l false
@[simp] theorem c15_0e : Rg c15_0 c15_0l false := rgE _ _
@[simp] def c15_1l : List EO := [o 22 (.load 21 true) [t 4],
 o 23 (.call 18) [t 22],
 o 24 (.un .not) [t 23]]
def c15_1 : EC := .rg c15_1l false
@[simp] theorem c15_1e : Rg c15_1 c15_1l false := rgE _ _
@[simp] def c15_2l : List EO := [o 25 (.build [.t (.int .i64 0), .t (.int .i64 0), .t (.int .i64 0), .t (.int .i64 0), .t (.int .i64 0), .t (.int .i64 0), .t (.int .i64 0), .t (.int .i64 0), .t (.int .i64 0), .t (.int .i64 0), .t (.int .i64 0), .t (.int .i64 0), .t (.int .i64 0), .t (.int .i64 0), .t (.int .i64 0), .t (.int .i64 0)] []) [],
 u (.store 16) [t 8, t 25],
 o 9 .mv [i 1]]
def c15_2 : EC := .rg c15_2l false
@[simp] theorem c15_2e : Rg c15_2 c15_2l false := rgE _ _
def c15_3 : EC := .sq c15_2 .rt
@[simp] theorem c15_3e : Sq c15_3 c15_2 .rt := sqE _ _
def c15_4 : EC := .cd (t 24) c15_3 .skip
@[simp] theorem c15_4e : Cd c15_4 (t 24) c15_3 .skip := cdE _ _ _
def c15_5 : EC := .sq c15_1 c15_4
@[simp] theorem c15_5e : Sq c15_5 c15_1 c15_4 := sqE _ _
@[simp] def c15_6l : List EO := [o 27 (.faddr 1) [t 4],
 o 28 (.load 3 true) [t 27],
 o 29 (.faddr 0) [t 6],
 o 30 (.load 1 false) [t 29],
 o 31 (.call 19) [t 28, t 30],
 m 26 31,
 o 32 (.ext 0) [t 26],
 o 33 (.ext 1) [t 26],
 m 10 32,
 m 11 33]
def c15_6 : EC := .rg c15_6l false
@[simp] theorem c15_6e : Rg c15_6 c15_6l false := rgE _ _
@[simp] def c15_7l : List EO := [m 34 11,
 o 35 (.bin .neq) [t 34, i 0]]
def c15_7 : EC := .rg c15_7l false
@[simp] theorem c15_7e : Rg c15_7 c15_7l false := rgE _ _
@[simp] def c15_8l : List EO := [o 36 (.build [.t (.int .i64 0), .t (.int .i64 0), .t (.int .i64 0), .t (.int .i64 0), .t (.int .i64 0), .t (.int .i64 0), .t (.int .i64 0), .t (.int .i64 0), .t (.int .i64 0), .t (.int .i64 0), .t (.int .i64 0), .t (.int .i64 0), .t (.int .i64 0), .t (.int .i64 0), .t (.int .i64 0), .t (.int .i64 0)] []) [],
 u (.store 16) [t 8, t 36],
 o 9 .mv [i 2]]
def c15_8 : EC := .rg c15_8l false
@[simp] theorem c15_8e : Rg c15_8 c15_8l false := rgE _ _
def c15_9 : EC := .sq c15_8 .rt
@[simp] theorem c15_9e : Sq c15_9 c15_8 .rt := sqE _ _
def c15_10 : EC := .cd (t 35) c15_9 .skip
@[simp] theorem c15_10e : Cd c15_10 (t 35) c15_9 .skip := cdE _ _ _
def c15_11 : EC := .sq c15_7 c15_10
@[simp] theorem c15_11e : Sq c15_11 c15_7 c15_10 := sqE _ _
@[simp] def c15_12l : List EO := [o 38 (.faddr 1) [t 4],
 o 39 (.load 3 true) [t 38],
 o 40 (.faddr 0) [t 6],
 o 41 (.load 1 false) [t 40],
 o 42 (.call 20) [t 39, t 41],
 m 37 42,
 o 43 (.ext 0) [t 37],
 o 44 (.ext 1) [t 37],
 m 12 43,
 m 13 44]
def c15_12 : EC := .rg c15_12l false
@[simp] theorem c15_12e : Rg c15_12 c15_12l false := rgE _ _
@[simp] def c15_13l : List EO := [o 46 (.load 21 true) [t 4],
 m 47 3,
 o 48 (.call 26) [t 46, t 47],
 m 45 48,
 o 49 (.ext 0) [t 45],
 o 50 (.ext 1) [t 45],
 o 14 (.alloc [.t (.int .i64 0), .t (.int .i64 0), .t (.int .i64 0), .t (.int .i64 0)]) [],
 u (.store 4) [t 14, t 49],
 m 15 50]
def c15_13 : EC := .rg c15_13l false
@[simp] theorem c15_13e : Rg c15_13 c15_13l false := rgE _ _
@[simp] def c15_14l : List EO := [m 51 15,
 o 52 (.un .not) [t 51]]
def c15_14 : EC := .rg c15_14l false
@[simp] theorem c15_14e : Rg c15_14 c15_14l false := rgE _ _
@[simp] def c15_15l : List EO := [o 53 (.build [.t (.int .i64 0), .t (.int .i64 0), .t (.int .i64 0), .t (.int .i64 0), .t (.int .i64 0), .t (.int .i64 0), .t (.int .i64 0), .t (.int .i64 0), .t (.int .i64 0), .t (.int .i64 0), .t (.int .i64 0), .t (.int .i64 0), .t (.int .i64 0), .t (.int .i64 0), .t (.int .i64 0), .t (.int .i64 0)] []) [],
 u (.store 16) [t 8, t 53],
 o 9 .mv [i 8]]
def c15_15 : EC := .rg c15_15l false
@[simp] theorem c15_15e : Rg c15_15 c15_15l false := rgE _ _
def c15_16 : EC := .sq c15_15 .rt
@[simp] theorem c15_16e : Sq c15_16 c15_15 .rt := sqE _ _
def c15_17 : EC := .cd (t 52) c15_16 .skip
@[simp] theorem c15_17e : Cd c15_17 (t 52) c15_16 .skip := cdE _ _ _
def c15_18 : EC := .sq c15_14 c15_17
@[simp] theorem c15_18e : Sq c15_18 c15_14 c15_17 := sqE _ _
def c15_19 : EC := .sq c15_13 c15_18
@[simp] theorem c15_19e : Sq c15_19 c15_13 c15_18 := sqE _ _
@[simp] def c15_20l : List EO := [o 54 (.load 4 true) [t 5],
 m 55 3,
 o 56 (.call 39) [t 54, t 55, i (-9223372036854775808), i 9223372036854775807],
 o 57 (.load 4 true) [t 6],
 m 58 3,
 o 59 (.call 39) [t 57, t 58, i (-9223372036854775808), i 9223372036854775807],
 m 16 56,
 m 17 59]
def c15_20 : EC := .rg c15_20l true
@[simp] theorem c15_20e : Rg c15_20 c15_20l true := rgE _ _
@[simp] def c15_21l : List EO := [m 60 3,
 m 61 16,
 o 62 (.load 4 true) [t 5],
 m 63 3,
 o 64 (.call 40) [t 62, t 63, i (-1)],
 o 65 (.bin .add) [t 61, t 64],
 o 66 (.load 4 true) [t 6],
 m 67 3,
 m 68 10,
 m 69 12,
 o 70 (.call 39) [t 66, t 67, t 68, t 69],
 m 71 17,
 o 72 (.load 4 true) [t 6],
 m 73 3,
 o 74 (.call 40) [t 72, t 73, i (-1)],
 o 75 (.bin .add) [t 71, t 74],
 o 76 (.build [.t (.int .i64 0), .t (.int .i64 0), .t (.int .i64 0), .t (.int .i64 0), .t (.int .i64 0), .t (.int .i64 0), .t (.int .i64 0), .t (.int .i64 0), .t (.int .i64 0), .t (.int .i64 0), .t (.int .i64 0), .t (.int .i64 0), .t (.int .i64 0), .t (.int .i64 0), .t (.int .i64 0), .t (.int .i64 0)] [(0, 1), (1, 1), (2, 1), (4, 1)]) [t 60, t 65, t 70, t 75],
 o 18 (.alloc [.t (.int .i64 0), .t (.int .i64 0), .t (.int .i64 0), .t (.int .i64 0), .t (.int .i64 0), .t (.int .i64 0), .t (.int .i64 0), .t (.int .i64 0), .t (.int .i64 0), .t (.int .i64 0), .t (.int .i64 0), .t (.int .i64 0), .t (.int .i64 0), .t (.int .i64 0), .t (.int .i64 0), .t (.int .i64 0)]) [],
 u (.store 16) [t 18, t 76]]
def c15_21 : EC := .rg c15_21l true
@[simp] theorem c15_21e : Rg c15_21 c15_21l true := rgE _ _
@[simp] def c15_22l : List EO := [m 77 17,
 o 78 (.faddr 2) [t 18],
 o 79 (.load 1 false) [t 78],
 o 80 (.bin .sub) [t 77, t 79],
 m 81 16,
 o 82 (.bin .sub) [t 80, t 81],
 o 83 (.faddr 3) [t 18],
 u (.store 1) [t 83, t 82]]
def c15_22 : EC := .rg c15_22l false
@[simp] theorem c15_22e : Rg c15_22 c15_22l false := rgE _ _
@[simp] def c15_23l : List EO := [o 84 (.faddr 1) [t 18],
 o 85 (.load 1 false) [t 84],
 o 86 (.faddr 2) [t 18],
 o 87 (.load 1 false) [t 86],
 o 88 (.faddr 3) [t 18],
 o 89 (.load 1 false) [t 88],
 o 90 (.faddr 4) [t 18],
 o 91 (.load 1 false) [t 90],
 o 92 (.bsl 1) [t 85, t 87, t 89, t 91],
 m 19 92]
def c15_23 : EC := .rg c15_23l false
@[simp] theorem c15_23e : Rg c15_23 c15_23l false := rgE _ _
@[simp] def c15_24l : List EO := [o 20 .mv [i 1]]
def c15_24 : EC := .rg c15_24l false
@[simp] theorem c15_24e : Rg c15_24 c15_24l false := rgE _ _
@[simp] def c15_25l : List EO := [m 93 20,
 o 94 (.bin .leq) [t 93, i 10]]
def c15_25 : EC := .rg c15_25l false
@[simp] theorem c15_25e : Rg c15_25 c15_25l false := rgE _ _
def c15_26 : EC := .cd (t 94) .skip (.ex 0)
@[simp] theorem c15_26e : Cd c15_26 (t 94) .skip (.ex 0) := cdE _ _ _
def c15_27 : EC := .sq c15_25 c15_26
@[simp] theorem c15_27e : Sq c15_27 c15_25 c15_26 := sqE _ _
@[simp] def c15_28l : List EO := [m 97 20,
 o 98 (.load 4 true) [t 6],
 m 99 3,
 m 100 20,
 o 101 (.call 40) [t 98, t 99, t 100],
 o 102 (.load 4 true) [t 5],
 m 103 3,
 m 104 20,
 o 105 (.call 40) [t 102, t 103, t 104],
 o 106 (.bin .sub) [t 101, t 105],
 o 107 (.faddr 5) [t 18],
 o 108 (.iaA 11 1) [t 107, t 97],
 u (.store 1) [t 108, t 106]]
def c15_28 : EC := .rg c15_28l true
@[simp] theorem c15_28e : Rg c15_28 c15_28l true := rgE _ _
@[simp] def c15_29l : List EO := [m 109 19,
 m 110 20,
 o 111 (.faddr 5) [t 18],
 o 112 (.iaA 11 1) [t 111, t 110],
 o 113 (.load 1 false) [t 112],
 o 114 (.bsl 1) [t 113],
 o 115 (.app 3 1 8) [t 109, t 114],
 m 19 115]
def c15_29 : EC := .rg c15_29l false
@[simp] theorem c15_29e : Rg c15_29 c15_29l false := rgE _ _
def c15_30 : EC := .sq c15_28 c15_29
@[simp] theorem c15_30e : Sq c15_30 c15_28 c15_29 := sqE _ _
def c15_31 : EC := .bk 1 c15_30
@[simp] theorem c15_31e : Bk c15_31 1 c15_30 := bkE _ _
@[simp] def c15_32l : List EO := [m 95 20,
 o 96 (.bin .add) [t 95, i 1],
 m 20 96]
def c15_32 : EC := .rg c15_32l false
@[simp] theorem c15_32e : Rg c15_32 c15_32l false := rgE _ _
def c15_33 : EC := .sq c15_31 c15_32
@[simp] theorem c15_33e : Sq c15_33 c15_31 c15_32 := sqE _ _
def c15_34 : EC := .sq c15_27 c15_33
@[simp] theorem c15_34e : Sq c15_34 c15_27 c15_33 := sqE _ _
def c15_35 : EC := .bk 0 (.lp c15_34)
@[simp] theorem c15_35e : Bk c15_35 0 (.lp c15_34) := bkE _ _
def c15_36 : EC := .sq c15_24 c15_35
@[simp] theorem c15_36e : Sq c15_36 c15_24 c15_35 := sqE _ _
@[simp] def c15_37l : List EO := [o 21 .mv [i 0]]
def c15_37 : EC := .rg c15_37l false
@[simp] theorem c15_37e : Rg c15_37 c15_37l false := rgE _ _
@[simp] def c15_38l : List EO := [m 116 21,
 m 117 19,
 o 118 .lenL [t 117],
 o 119 (.bin .lss) [t 116, t 118]]
def c15_38 : EC := .rg c15_38l false
@[simp] theorem c15_38e : Rg c15_38 c15_38l false := rgE _ _
def c15_39 : EC := .cd (t 119) .skip (.ex 2)
@[simp] theorem c15_39e : Cd c15_39 (t 119) .skip (.ex 2) := cdE _ _ _
def c15_40 : EC := .sq c15_38 c15_39
@[simp] theorem c15_40e : Sq c15_40 c15_38 c15_39 := sqE _ _
@[simp] def c15_41l : List EO := [m 122 19,
 m 123 21,
 o 124 (.iaS 1) [t 122, t 123],
 o 125 (.load 1 false) [t 124],
 o 126 (.call 41) [t 125],
 o 127 (.un .not) [t 126]]
def c15_41 : EC := .rg c15_41l false
@[simp] theorem c15_41e : Rg c15_41 c15_41l false := rgE _ _
@[simp] def c15_42l : List EO := [o 128 (.build [.t (.int .i64 0), .t (.int .i64 0), .t (.int .i64 0), .t (.int .i64 0), .t (.int .i64 0), .t (.int .i64 0), .t (.int .i64 0), .t (.int .i64 0), .t (.int .i64 0), .t (.int .i64 0), .t (.int .i64 0), .t (.int .i64 0), .t (.int .i64 0), .t (.int .i64 0), .t (.int .i64 0), .t (.int .i64 0)] []) [],
 u (.store 16) [t 8, t 128],
 o 9 .mv [i 2]]
def c15_42 : EC := .rg c15_42l false
@[simp] theorem c15_42e : Rg c15_42 c15_42l false := rgE _ _
def c15_43 : EC := .sq c15_42 .rt
@[simp] theorem c15_43e : Sq c15_43 c15_42 .rt := sqE _ _
def c15_44 : EC := .cd (t 127) c15_43 .skip
@[simp] theorem c15_44e : Cd c15_44 (t 127) c15_43 .skip := cdE _ _ _
def c15_45 : EC := .sq c15_41 c15_44
@[simp] theorem c15_45e : Sq c15_45 c15_41 c15_44 := sqE _ _
def c15_46 : EC := .bk 3 c15_45
@[simp] theorem c15_46e : Bk c15_46 3 c15_45 := bkE _ _
@[simp] def c15_47l : List EO := [m 120 21,
 o 121 (.bin .add) [t 120, i 1],
 m 21 121]
def c15_47 : EC := .rg c15_47l false
@[simp] theorem c15_47e : Rg c15_47 c15_47l false := rgE _ _
def c15_48 : EC := .sq c15_46 c15_47
@[simp] theorem c15_48e : Sq c15_48 c15_46 c15_47 := sqE _ _
def c15_49 : EC := .sq c15_40 c15_48
@[simp] theorem c15_49e : Sq c15_49 c15_40 c15_48 := sqE _ _
def c15_50 : EC := .bk 2 (.lp c15_49)
@[simp] theorem c15_50e : Bk c15_50 2 (.lp c15_49) := bkE _ _
def c15_51 : EC := .sq c15_37 c15_50
@[simp] theorem c15_51e : Sq c15_51 c15_37 c15_50 := sqE _ _
@[simp] def c15_52l : List EO := [o 129 (.load 16 true) [t 18],
 u (.store 16) [t 8, t 129],
 o 9 .mv [i 0]]
def c15_52 : EC := .rg c15_52l false
@[simp] theorem c15_52e : Rg c15_52 c15_52l false := rgE _ _
def c15_53 : EC := .sq c15_52 .rt
@[simp] theorem c15_53e : Sq c15_53 c15_52 .rt := sqE _ _
def c15_54 : EC := .sq c15_51 c15_53
@[simp] theorem c15_54e : Sq c15_54 c15_51 c15_53 := sqE _ _
def c15_55 : EC := .sq c15_36 c15_54
@[simp] theorem c15_55e : Sq c15_55 c15_36 c15_54 := sqE _ _
def c15_56 : EC := .sq c15_23 c15_55
@[simp] theorem c15_56e : Sq c15_56 c15_23 c15_55 := sqE _ _
def c15_57 : EC := .sq c15_22 c15_56
@[simp] theorem c15_57e : Sq c15_57 c15_22 c15_56 := sqE _ _
def c15_58 : EC := .sq c15_21 c15_57
@[simp] theorem c15_58e : Sq c15_58 c15_21 c15_57 := sqE _ _
def c15_59 : EC := .sq c15_20 c15_58
@[simp] theorem c15_59e : Sq c15_59 c15_20 c15_58 := sqE _ _
def c15_60 : EC := .sq c15_19 c15_59
@[simp] theorem c15_60e : Sq c15_60 c15_19 c15_59 := sqE _ _
def c15_61 : EC := .sq c15_12 c15_60
@[simp] theorem c15_61e : Sq c15_61 c15_12 c15_60 := sqE _ _
def c15_62 : EC := .sq c15_11 c15_61
@[simp] theorem c15_62e : Sq c15_62 c15_11 c15_61 := sqE _ _
def c15_63 : EC := .sq c15_6 c15_62
@[simp] theorem c15_63e : Sq c15_63 c15_6 c15_62 := sqE _ _
def c15_64 : EC := .sq c15_5 c15_63
@[simp] theorem c15_64e : Sq c15_64 c15_5 c15_63 := sqE _ _
def c15_65 : EC := .sq c15_0 c15_64
@[simp] theorem c15_65e : Sq c15_65 c15_0 c15_64 := sqE _ _
def c_tallystoneref52_Make_15 : EC := c15_65
theorem k_15 : ecF Try.prog 15 = some (130, c_tallystoneref52_Make_15, [.ce 8 16 true, .tm 9]) := by kernel_rfl

/-- tallystone/tallystoneref52.Make, with slices that grow in boxes -/
@[simp] def b15_0l : List EO := [o 4 .box [t 0],
 o 5 .box [t 1],
 o 6 .box [t 2],
 o 8 (.alloc [.t (.int .i64 0), .t (.int .i64 0), .t (.int .i64 0), .t (.int .i64 0), .t (.int .i64 0), .t (.int .i64 0), .t (.int .i64 0), .t (.int .i64 0), .t (.int .i64 0), .t (.int .i64 0), .t (.int .i64 0), .t (.int .i64 0), .t (.int .i64 0), .t (.int .i64 0), .t (.int .i64 0), .t (.int .i64 0)]) [],
 o 9 .mv [i 0]]
def b15_0 : EC := .rg b15_0l false
@[simp] theorem b15_0e : Rg b15_0 b15_0l false := rgE _ _
@[simp] def b15_1l : List EO := [o 22 (.load 21 true) [t 4],
 o 23 (.call 18) [t 22],
 o 24 (.un .not) [t 23]]
def b15_1 : EC := .rg b15_1l false
@[simp] theorem b15_1e : Rg b15_1 b15_1l false := rgE _ _
@[simp] def b15_2l : List EO := [o 25 (.build [.t (.int .i64 0), .t (.int .i64 0), .t (.int .i64 0), .t (.int .i64 0), .t (.int .i64 0), .t (.int .i64 0), .t (.int .i64 0), .t (.int .i64 0), .t (.int .i64 0), .t (.int .i64 0), .t (.int .i64 0), .t (.int .i64 0), .t (.int .i64 0), .t (.int .i64 0), .t (.int .i64 0), .t (.int .i64 0)] []) [],
 u (.store 16) [t 8, t 25],
 o 9 .mv [i 1]]
def b15_2 : EC := .rg b15_2l false
@[simp] theorem b15_2e : Rg b15_2 b15_2l false := rgE _ _
def b15_3 : EC := .sq b15_2 .rt
@[simp] theorem b15_3e : Sq b15_3 b15_2 .rt := sqE _ _
def b15_4 : EC := .cd (t 24) b15_3 .skip
@[simp] theorem b15_4e : Cd b15_4 (t 24) b15_3 .skip := cdE _ _ _
def b15_5 : EC := .sq b15_1 b15_4
@[simp] theorem b15_5e : Sq b15_5 b15_1 b15_4 := sqE _ _
@[simp] def b15_6l : List EO := [o 27 (.faddr 1) [t 4],
 o 28 (.load 3 true) [t 27],
 o 29 (.faddr 0) [t 6],
 o 30 (.load 1 false) [t 29],
 o 31 (.call 19) [t 28, t 30],
 m 26 31,
 o 32 (.ext 0) [t 26],
 o 33 (.ext 1) [t 26],
 m 10 32,
 m 11 33]
def b15_6 : EC := .rg b15_6l false
@[simp] theorem b15_6e : Rg b15_6 b15_6l false := rgE _ _
@[simp] def b15_7l : List EO := [m 34 11,
 o 35 (.bin .neq) [t 34, i 0]]
def b15_7 : EC := .rg b15_7l false
@[simp] theorem b15_7e : Rg b15_7 b15_7l false := rgE _ _
@[simp] def b15_8l : List EO := [o 36 (.build [.t (.int .i64 0), .t (.int .i64 0), .t (.int .i64 0), .t (.int .i64 0), .t (.int .i64 0), .t (.int .i64 0), .t (.int .i64 0), .t (.int .i64 0), .t (.int .i64 0), .t (.int .i64 0), .t (.int .i64 0), .t (.int .i64 0), .t (.int .i64 0), .t (.int .i64 0), .t (.int .i64 0), .t (.int .i64 0)] []) [],
 u (.store 16) [t 8, t 36],
 o 9 .mv [i 2]]
def b15_8 : EC := .rg b15_8l false
@[simp] theorem b15_8e : Rg b15_8 b15_8l false := rgE _ _
def b15_9 : EC := .sq b15_8 .rt
@[simp] theorem b15_9e : Sq b15_9 b15_8 .rt := sqE _ _
def b15_10 : EC := .cd (t 35) b15_9 .skip
@[simp] theorem b15_10e : Cd b15_10 (t 35) b15_9 .skip := cdE _ _ _
def b15_11 : EC := .sq b15_7 b15_10
@[simp] theorem b15_11e : Sq b15_11 b15_7 b15_10 := sqE _ _
@[simp] def b15_12l : List EO := [o 38 (.faddr 1) [t 4],
 o 39 (.load 3 true) [t 38],
 o 40 (.faddr 0) [t 6],
 o 41 (.load 1 false) [t 40],
 o 42 (.call 20) [t 39, t 41],
 m 37 42,
 o 43 (.ext 0) [t 37],
 o 44 (.ext 1) [t 37],
 m 12 43,
 m 13 44]
def b15_12 : EC := .rg b15_12l false
@[simp] theorem b15_12e : Rg b15_12 b15_12l false := rgE _ _
@[simp] def b15_13l : List EO := [o 46 (.load 21 true) [t 4],
 m 47 3,
 o 48 (.call 26) [t 46, t 47],
 m 45 48,
 o 49 (.ext 0) [t 45],
 o 50 (.ext 1) [t 45],
 o 14 (.alloc [.t (.int .i64 0), .t (.int .i64 0), .t (.int .i64 0), .t (.int .i64 0)]) [],
 u (.store 4) [t 14, t 49],
 m 15 50]
def b15_13 : EC := .rg b15_13l false
@[simp] theorem b15_13e : Rg b15_13 b15_13l false := rgE _ _
@[simp] def b15_14l : List EO := [m 51 15,
 o 52 (.un .not) [t 51]]
def b15_14 : EC := .rg b15_14l false
@[simp] theorem b15_14e : Rg b15_14 b15_14l false := rgE _ _
@[simp] def b15_15l : List EO := [o 53 (.build [.t (.int .i64 0), .t (.int .i64 0), .t (.int .i64 0), .t (.int .i64 0), .t (.int .i64 0), .t (.int .i64 0), .t (.int .i64 0), .t (.int .i64 0), .t (.int .i64 0), .t (.int .i64 0), .t (.int .i64 0), .t (.int .i64 0), .t (.int .i64 0), .t (.int .i64 0), .t (.int .i64 0), .t (.int .i64 0)] []) [],
 u (.store 16) [t 8, t 53],
 o 9 .mv [i 8]]
def b15_15 : EC := .rg b15_15l false
@[simp] theorem b15_15e : Rg b15_15 b15_15l false := rgE _ _
def b15_16 : EC := .sq b15_15 .rt
@[simp] theorem b15_16e : Sq b15_16 b15_15 .rt := sqE _ _
def b15_17 : EC := .cd (t 52) b15_16 .skip
@[simp] theorem b15_17e : Cd b15_17 (t 52) b15_16 .skip := cdE _ _ _
def b15_18 : EC := .sq b15_14 b15_17
@[simp] theorem b15_18e : Sq b15_18 b15_14 b15_17 := sqE _ _
def b15_19 : EC := .sq b15_13 b15_18
@[simp] theorem b15_19e : Sq b15_19 b15_13 b15_18 := sqE _ _
@[simp] def b15_20l : List EO := [o 54 (.load 4 true) [t 5],
 m 55 3,
 o 56 (.call 39) [t 54, t 55, i (-9223372036854775808), i 9223372036854775807],
 o 57 (.load 4 true) [t 6],
 m 58 3,
 o 59 (.call 39) [t 57, t 58, i (-9223372036854775808), i 9223372036854775807],
 m 16 56,
 m 17 59]
def b15_20 : EC := .rg b15_20l true
@[simp] theorem b15_20e : Rg b15_20 b15_20l true := rgE _ _
@[simp] def b15_21l : List EO := [m 60 3,
 m 61 16,
 o 62 (.load 4 true) [t 5],
 m 63 3,
 o 64 (.call 40) [t 62, t 63, i (-1)],
 o 65 (.bin .add) [t 61, t 64],
 o 66 (.load 4 true) [t 6],
 m 67 3,
 m 68 10,
 m 69 12,
 o 70 (.call 39) [t 66, t 67, t 68, t 69],
 m 71 17,
 o 72 (.load 4 true) [t 6],
 m 73 3,
 o 74 (.call 40) [t 72, t 73, i (-1)],
 o 75 (.bin .add) [t 71, t 74],
 o 76 (.build [.t (.int .i64 0), .t (.int .i64 0), .t (.int .i64 0), .t (.int .i64 0), .t (.int .i64 0), .t (.int .i64 0), .t (.int .i64 0), .t (.int .i64 0), .t (.int .i64 0), .t (.int .i64 0), .t (.int .i64 0), .t (.int .i64 0), .t (.int .i64 0), .t (.int .i64 0), .t (.int .i64 0), .t (.int .i64 0)] [(0, 1), (1, 1), (2, 1), (4, 1)]) [t 60, t 65, t 70, t 75],
 o 18 (.alloc [.t (.int .i64 0), .t (.int .i64 0), .t (.int .i64 0), .t (.int .i64 0), .t (.int .i64 0), .t (.int .i64 0), .t (.int .i64 0), .t (.int .i64 0), .t (.int .i64 0), .t (.int .i64 0), .t (.int .i64 0), .t (.int .i64 0), .t (.int .i64 0), .t (.int .i64 0), .t (.int .i64 0), .t (.int .i64 0)]) [],
 u (.store 16) [t 18, t 76]]
def b15_21 : EC := .rg b15_21l true
@[simp] theorem b15_21e : Rg b15_21 b15_21l true := rgE _ _
@[simp] def b15_22l : List EO := [m 77 17,
 o 78 (.faddr 2) [t 18],
 o 79 (.load 1 false) [t 78],
 o 80 (.bin .sub) [t 77, t 79],
 m 81 16,
 o 82 (.bin .sub) [t 80, t 81],
 o 83 (.faddr 3) [t 18],
 u (.store 1) [t 83, t 82]]
def b15_22 : EC := .rg b15_22l false
@[simp] theorem b15_22e : Rg b15_22 b15_22l false := rgE _ _
@[simp] def b15_23l : List EO := [o 84 (.faddr 1) [t 18],
 o 85 (.load 1 false) [t 84],
 o 86 (.faddr 2) [t 18],
 o 87 (.load 1 false) [t 86],
 o 88 (.faddr 3) [t 18],
 o 89 (.load 1 false) [t 88],
 o 90 (.faddr 4) [t 18],
 o 91 (.load 1 false) [t 90],
 o 92 (.bsl 1) [t 85, t 87, t 89, t 91],
 m 19 92]
def b15_23 : EC := .rg b15_23l false
@[simp] theorem b15_23e : Rg b15_23 b15_23l false := rgE _ _
@[simp] def b15_24l : List EO := [o 20 .mv [i 1]]
def b15_24 : EC := .rg b15_24l false
@[simp] theorem b15_24e : Rg b15_24 b15_24l false := rgE _ _
@[simp] def b15_25l : List EO := [m 93 20,
 o 94 (.bin .leq) [t 93, i 10]]
def b15_25 : EC := .rg b15_25l false
@[simp] theorem b15_25e : Rg b15_25 b15_25l false := rgE _ _
def b15_26 : EC := .cd (t 94) .skip (.ex 0)
@[simp] theorem b15_26e : Cd b15_26 (t 94) .skip (.ex 0) := cdE _ _ _
def b15_27 : EC := .sq b15_25 b15_26
@[simp] theorem b15_27e : Sq b15_27 b15_25 b15_26 := sqE _ _
@[simp] def b15_28l : List EO := [m 97 20,
 o 98 (.load 4 true) [t 6],
 m 99 3,
 m 100 20,
 o 101 (.call 40) [t 98, t 99, t 100],
 o 102 (.load 4 true) [t 5],
 m 103 3,
 m 104 20,
 o 105 (.call 40) [t 102, t 103, t 104],
 o 106 (.bin .sub) [t 101, t 105],
 o 107 (.faddr 5) [t 18],
 o 108 (.iaA 11 1) [t 107, t 97],
 u (.store 1) [t 108, t 106]]
def b15_28 : EC := .rg b15_28l true
@[simp] theorem b15_28e : Rg b15_28 b15_28l true := rgE _ _
@[simp] def b15_29l : List EO := [m 109 19,
 m 110 20,
 o 111 (.faddr 5) [t 18],
 o 112 (.iaA 11 1) [t 111, t 110],
 o 113 (.load 1 false) [t 112],
 o 114 (.bsl 1) [t 113],
 o 115 (.appB 3 1 8) [t 109, t 114],
 m 19 115]
def b15_29 : EC := .rg b15_29l false
@[simp] theorem b15_29e : Rg b15_29 b15_29l false := rgE _ _
def b15_30 : EC := .sq b15_28 b15_29
@[simp] theorem b15_30e : Sq b15_30 b15_28 b15_29 := sqE _ _
def b15_31 : EC := .bk 1 b15_30
@[simp] theorem b15_31e : Bk b15_31 1 b15_30 := bkE _ _
@[simp] def b15_32l : List EO := [m 95 20,
 o 96 (.bin .add) [t 95, i 1],
 m 20 96]
def b15_32 : EC := .rg b15_32l false
@[simp] theorem b15_32e : Rg b15_32 b15_32l false := rgE _ _
def b15_33 : EC := .sq b15_31 b15_32
@[simp] theorem b15_33e : Sq b15_33 b15_31 b15_32 := sqE _ _
def b15_34 : EC := .sq b15_27 b15_33
@[simp] theorem b15_34e : Sq b15_34 b15_27 b15_33 := sqE _ _
def b15_35 : EC := .bk 0 (.lp b15_34)
@[simp] theorem b15_35e : Bk b15_35 0 (.lp b15_34) := bkE _ _
def b15_36 : EC := .sq b15_24 b15_35
@[simp] theorem b15_36e : Sq b15_36 b15_24 b15_35 := sqE _ _
@[simp] def b15_37l : List EO := [o 21 .mv [i 0]]
def b15_37 : EC := .rg b15_37l false
@[simp] theorem b15_37e : Rg b15_37 b15_37l false := rgE _ _
@[simp] def b15_38l : List EO := [m 116 21,
 m 117 19,
 o 118 .lenL [t 117],
 o 119 (.bin .lss) [t 116, t 118]]
def b15_38 : EC := .rg b15_38l false
@[simp] theorem b15_38e : Rg b15_38 b15_38l false := rgE _ _
def b15_39 : EC := .cd (t 119) .skip (.ex 2)
@[simp] theorem b15_39e : Cd b15_39 (t 119) .skip (.ex 2) := cdE _ _ _
def b15_40 : EC := .sq b15_38 b15_39
@[simp] theorem b15_40e : Sq b15_40 b15_38 b15_39 := sqE _ _
@[simp] def b15_41l : List EO := [m 122 19,
 m 123 21,
 o 124 (.iaS 1) [t 122, t 123],
 o 125 (.load 1 false) [t 124],
 o 126 (.call 41) [t 125],
 o 127 (.un .not) [t 126]]
def b15_41 : EC := .rg b15_41l false
@[simp] theorem b15_41e : Rg b15_41 b15_41l false := rgE _ _
@[simp] def b15_42l : List EO := [o 128 (.build [.t (.int .i64 0), .t (.int .i64 0), .t (.int .i64 0), .t (.int .i64 0), .t (.int .i64 0), .t (.int .i64 0), .t (.int .i64 0), .t (.int .i64 0), .t (.int .i64 0), .t (.int .i64 0), .t (.int .i64 0), .t (.int .i64 0), .t (.int .i64 0), .t (.int .i64 0), .t (.int .i64 0), .t (.int .i64 0)] []) [],
 u (.store 16) [t 8, t 128],
 o 9 .mv [i 2]]
def b15_42 : EC := .rg b15_42l false
@[simp] theorem b15_42e : Rg b15_42 b15_42l false := rgE _ _
def b15_43 : EC := .sq b15_42 .rt
@[simp] theorem b15_43e : Sq b15_43 b15_42 .rt := sqE _ _
def b15_44 : EC := .cd (t 127) b15_43 .skip
@[simp] theorem b15_44e : Cd b15_44 (t 127) b15_43 .skip := cdE _ _ _
def b15_45 : EC := .sq b15_41 b15_44
@[simp] theorem b15_45e : Sq b15_45 b15_41 b15_44 := sqE _ _
def b15_46 : EC := .bk 3 b15_45
@[simp] theorem b15_46e : Bk b15_46 3 b15_45 := bkE _ _
@[simp] def b15_47l : List EO := [m 120 21,
 o 121 (.bin .add) [t 120, i 1],
 m 21 121]
def b15_47 : EC := .rg b15_47l false
@[simp] theorem b15_47e : Rg b15_47 b15_47l false := rgE _ _
def b15_48 : EC := .sq b15_46 b15_47
@[simp] theorem b15_48e : Sq b15_48 b15_46 b15_47 := sqE _ _
def b15_49 : EC := .sq b15_40 b15_48
@[simp] theorem b15_49e : Sq b15_49 b15_40 b15_48 := sqE _ _
def b15_50 : EC := .bk 2 (.lp b15_49)
@[simp] theorem b15_50e : Bk b15_50 2 (.lp b15_49) := bkE _ _
def b15_51 : EC := .sq b15_37 b15_50
@[simp] theorem b15_51e : Sq b15_51 b15_37 b15_50 := sqE _ _
@[simp] def b15_52l : List EO := [o 129 (.load 16 true) [t 18],
 u (.store 16) [t 8, t 129],
 o 9 .mv [i 0]]
def b15_52 : EC := .rg b15_52l false
@[simp] theorem b15_52e : Rg b15_52 b15_52l false := rgE _ _
def b15_53 : EC := .sq b15_52 .rt
@[simp] theorem b15_53e : Sq b15_53 b15_52 .rt := sqE _ _
def b15_54 : EC := .sq b15_51 b15_53
@[simp] theorem b15_54e : Sq b15_54 b15_51 b15_53 := sqE _ _
def b15_55 : EC := .sq b15_36 b15_54
@[simp] theorem b15_55e : Sq b15_55 b15_36 b15_54 := sqE _ _
def b15_56 : EC := .sq b15_23 b15_55
@[simp] theorem b15_56e : Sq b15_56 b15_23 b15_55 := sqE _ _
def b15_57 : EC := .sq b15_22 b15_56
@[simp] theorem b15_57e : Sq b15_57 b15_22 b15_56 := sqE _ _
def b15_58 : EC := .sq b15_21 b15_57
@[simp] theorem b15_58e : Sq b15_58 b15_21 b15_57 := sqE _ _
def b15_59 : EC := .sq b15_20 b15_58
@[simp] theorem b15_59e : Sq b15_59 b15_20 b15_58 := sqE _ _
def b15_60 : EC := .sq b15_19 b15_59
@[simp] theorem b15_60e : Sq b15_60 b15_19 b15_59 := sqE _ _
def b15_61 : EC := .sq b15_12 b15_60
@[simp] theorem b15_61e : Sq b15_61 b15_12 b15_60 := sqE _ _
def b15_62 : EC := .sq b15_11 b15_61
@[simp] theorem b15_62e : Sq b15_62 b15_11 b15_61 := sqE _ _
def b15_63 : EC := .sq b15_6 b15_62
@[simp] theorem b15_63e : Sq b15_63 b15_6 b15_62 := sqE _ _
def b15_64 : EC := .sq b15_5 b15_63
@[simp] theorem b15_64e : Sq b15_64 b15_5 b15_63 := sqE _ _
def b15_65 : EC := .sq b15_0 b15_64
@[simp] theorem b15_65e : Sq b15_65 b15_0 b15_64 := sqE _ _
def b_tallystoneref52_Make_15 : EC := b15_65
theorem kb_15 : ecB Try.prog 15 = some (130, b_tallystoneref52_Make_15, [.ce 8 16 true, .tm 9]) := by kernel_rfl

/-- tallystone/note.Sum -/
@[simp] def c16_0l : List EO := [o 1 .box [t 0],
 o 2 .mv [i 0]]
def c16_0 : EC := .rg c16_0l false
@[simp] theorem c16_0e : Rg c16_0 c16_0l false := rgE _ _
@[simp] def c16_1l : List EO := [o 3 .mv [i 0]]
def c16_1 : EC := .rg c16_1l false
@[simp] theorem c16_1e : Rg c16_1 c16_1l false := rgE _ _
@[simp] def c16_2l : List EO := [o 6 (.faddr 5) [t 1],
 o 7 (.load 11 true) [t 6],
 o 8 .mv [i 0]]
def c16_2 : EC := .rg c16_2l false
@[simp] theorem c16_2e : Rg c16_2 c16_2l false := rgE _ _
@[simp] def c16_3l : List EO := [o 9 (.bin .lss) [t 8, i 11]]
def c16_3 : EC := .rg c16_3l false
@[simp] theorem c16_3e : Rg c16_3 c16_3l false := rgE _ _
def c16_4 : EC := .cd (t 9) .skip (.ex 0)
@[simp] theorem c16_4e : Cd c16_4 (t 9) .skip (.ex 0) := cdE _ _ _
@[simp] def c16_5l : List EO := [o 10 (.ixA 11 1 1 false) [t 7, t 8],
 m 5 10]
def c16_5 : EC := .rg c16_5l false
@[simp] theorem c16_5e : Rg c16_5 c16_5l false := rgE _ _
@[simp] def c16_6l : List EO := [m 11 3,
 m 12 5,
 o 13 (.bin .add) [t 11, t 12],
 m 3 13]
def c16_6 : EC := .rg c16_6l false
@[simp] theorem c16_6e : Rg c16_6 c16_6l false := rgE _ _
def c16_7 : EC := .sq c16_5 c16_6
@[simp] theorem c16_7e : Sq c16_7 c16_5 c16_6 := sqE _ _
def c16_8 : EC := .bk 1 c16_7
@[simp] theorem c16_8e : Bk c16_8 1 c16_7 := bkE _ _
@[simp] def c16_9l : List EO := [o 14 (.bin .add) [t 8, i 1],
 m 8 14]
def c16_9 : EC := .rg c16_9l false
@[simp] theorem c16_9e : Rg c16_9 c16_9l false := rgE _ _
def c16_10 : EC := .sq c16_8 c16_9
@[simp] theorem c16_10e : Sq c16_10 c16_8 c16_9 := sqE _ _
def c16_11 : EC := .sq c16_4 c16_10
@[simp] theorem c16_11e : Sq c16_11 c16_4 c16_10 := sqE _ _
def c16_12 : EC := .sq c16_3 c16_11
@[simp] theorem c16_12e : Sq c16_12 c16_3 c16_11 := sqE _ _
def c16_13 : EC := .bk 0 (.lp c16_12)
@[simp] theorem c16_13e : Bk c16_13 0 (.lp c16_12) := bkE _ _
def c16_14 : EC := .sq c16_2 c16_13
@[simp] theorem c16_14e : Sq c16_14 c16_2 c16_13 := sqE _ _
@[simp] def c16_15l : List EO := [m 15 3,
 m 2 15]
def c16_15 : EC := .rg c16_15l false
@[simp] theorem c16_15e : Rg c16_15 c16_15l false := rgE _ _
def c16_16 : EC := .sq c16_15 .rt
@[simp] theorem c16_16e : Sq c16_16 c16_15 .rt := sqE _ _
def c16_17 : EC := .sq c16_14 c16_16
@[simp] theorem c16_17e : Sq c16_17 c16_14 c16_16 := sqE _ _
def c16_18 : EC := .sq c16_1 c16_17
@[simp] theorem c16_18e : Sq c16_18 c16_1 c16_17 := sqE _ _
def c16_19 : EC := .sq c16_0 c16_18
@[simp] theorem c16_19e : Sq c16_19 c16_0 c16_18 := sqE _ _
def c_note_Sum_16 : EC := c16_19
theorem k_16 : ecF Try.prog 16 = some (16, c_note_Sum_16, [.tm 2]) := by kernel_rfl

/-- tallystone/tallystoneref52.Sum -/
@[simp] def c17_0l : List EO := [o 1 .box [t 0],
 o 2 .mv [i 0]]
def c17_0 : EC := .rg c17_0l false
@[simp] theorem c17_0e : Rg c17_0 c17_0l false := rgE _ _
@[simp] def c17_1l : List EO := [o 3 .mv [i 0]]
def c17_1 : EC := .rg c17_1l false
@[simp] theorem c17_1e : Rg c17_1 c17_1l false := rgE _ _
@[simp] def c17_2l : List EO := [o 4 .mv [i 0]]
def c17_2 : EC := .rg c17_2l false
@[simp] theorem c17_2e : Rg c17_2 c17_2l false := rgE _ _
@[simp] def c17_3l : List EO := [m 5 4,
 o 6 (.bin .lss) [t 5, i 11]]
def c17_3 : EC := .rg c17_3l false
@[simp] theorem c17_3e : Rg c17_3 c17_3l false := rgE _ _
def c17_4 : EC := .cd (t 6) .skip (.ex 0)
@[simp] theorem c17_4e : Cd c17_4 (t 6) .skip (.ex 0) := cdE _ _ _
def c17_5 : EC := .sq c17_3 c17_4
@[simp] theorem c17_5e : Sq c17_5 c17_3 c17_4 := sqE _ _
@[simp] def c17_6l : List EO := [m 9 3,
 m 10 4,
 o 11 (.faddr 5) [t 1],
 o 12 (.iaA 11 1) [t 11, t 10],
 o 13 (.load 1 false) [t 12],
 o 14 (.bin .add) [t 9, t 13],
 m 3 14]
def c17_6 : EC := .rg c17_6l false
@[simp] theorem c17_6e : Rg c17_6 c17_6l false := rgE _ _
def c17_7 : EC := .bk 1 c17_6
@[simp] theorem c17_7e : Bk c17_7 1 c17_6 := bkE _ _
@[simp] def c17_8l : List EO := [m 7 4,
 o 8 (.bin .add) [t 7, i 1],
 m 4 8]
def c17_8 : EC := .rg c17_8l false
@[simp] theorem c17_8e : Rg c17_8 c17_8l false := rgE _ _
def c17_9 : EC := .sq c17_7 c17_8
@[simp] theorem c17_9e : Sq c17_9 c17_7 c17_8 := sqE _ _
def c17_10 : EC := .sq c17_5 c17_9
@[simp] theorem c17_10e : Sq c17_10 c17_5 c17_9 := sqE _ _
def c17_11 : EC := .bk 0 (.lp c17_10)
@[simp] theorem c17_11e : Bk c17_11 0 (.lp c17_10) := bkE _ _
def c17_12 : EC := .sq c17_2 c17_11
@[simp] theorem c17_12e : Sq c17_12 c17_2 c17_11 := sqE _ _
@[simp] def c17_13l : List EO := [m 15 3,
 m 2 15]
def c17_13 : EC := .rg c17_13l false
@[simp] theorem c17_13e : Rg c17_13 c17_13l false := rgE _ _
def c17_14 : EC := .sq c17_13 .rt
@[simp] theorem c17_14e : Sq c17_14 c17_13 .rt := sqE _ _
def c17_15 : EC := .sq c17_12 c17_14
@[simp] theorem c17_15e : Sq c17_15 c17_12 c17_14 := sqE _ _
def c17_16 : EC := .sq c17_1 c17_15
@[simp] theorem c17_16e : Sq c17_16 c17_1 c17_15 := sqE _ _
def c17_17 : EC := .sq c17_0 c17_16
@[simp] theorem c17_17e : Sq c17_17 c17_0 c17_16 := sqE _ _
def c_tallystoneref52_Sum_17 : EC := c17_17
theorem k_17 : ecF Try.prog 17 = some (16, c_tallystoneref52_Sum_17, [.tm 2]) := by kernel_rfl

/-- tallystone/tallystoneref10.Valid -/
@[simp] def c18_0l : List EO := [o 1 .box [t 0],
 o 2 .mv [b false]]
def c18_0 : EC := .rg c18_0l false
@[simp] theorem c18_0e : Rg c18_0 c18_0l false := rgE _ _
@[simp] def c18_1l : List EO := [o 6 (.load 21 true) [t 1],
 o 7 (.call 42) [t 6],
 o 8 (.un .not) [t 7],
 m 9 8,
 n 10 9 (.faddr 20) [t 1],
 n 11 9 (.load 1 false) [t 10],
 n 12 9 .lenL [t 11],
 n 13 9 (.bin .lss) [t 12, i 1],
 o 14 .pick [t 9, b true, t 13],
 m 15 14,
 n 16 15 (.faddr 20) [t 1],
 n 17 15 (.load 1 false) [t 16],
 n 18 15 .lenL [t 17],
 n 19 15 (.bin .gtr) [t 18, i 12],
 o 20 .pick [t 15, b true, t 19],
 m 21 20,
 n 22 21 (.faddr 20) [t 1],
 n 23 21 (.load 1 false) [t 22],
 n 24 21 (.iaS 5) [t 23, i 0],
 n 25 21 (.faddr 4) [t 24],
 n 26 21 (.load 1 false) [t 25],
 o 27 .pick [t 21, b true, t 26]]
def c18_1 : EC := .rg c18_1l false
@[simp] theorem c18_1e : Rg c18_1 c18_1l false := rgE _ _
@[simp] def c18_2l : List EO := [o 2 .mv [b false]]
def c18_2 : EC := .rg c18_2l false
@[simp] theorem c18_2e : Rg c18_2 c18_2l false := rgE _ _
def c18_3 : EC := .sq c18_2 .rt
@[simp] theorem c18_3e : Sq c18_3 c18_2 .rt := sqE _ _
def c18_4 : EC := .cd (t 27) c18_3 .skip
@[simp] theorem c18_4e : Cd c18_4 (t 27) c18_3 .skip := cdE _ _ _
def c18_5 : EC := .sq c18_1 c18_4
@[simp] theorem c18_5e : Sq c18_5 c18_1 c18_4 := sqE _ _
@[simp] def c18_6l : List EO := [o 3 .mv [i 0]]
def c18_6 : EC := .rg c18_6l false
@[simp] theorem c18_6e : Rg c18_6 c18_6l false := rgE _ _
@[simp] def c18_7l : List EO := [m 28 3,
 o 29 (.faddr 20) [t 1],
 o 30 (.load 1 false) [t 29],
 o 31 .lenL [t 30],
 o 32 (.bin .lss) [t 28, t 31]]
def c18_7 : EC := .rg c18_7l false
@[simp] theorem c18_7e : Rg c18_7 c18_7l false := rgE _ _
def c18_8 : EC := .cd (t 32) .skip (.ex 0)
@[simp] theorem c18_8e : Cd c18_8 (t 32) .skip (.ex 0) := cdE _ _ _
def c18_9 : EC := .sq c18_7 c18_8
@[simp] theorem c18_9e : Sq c18_9 c18_7 c18_8 := sqE _ _
@[simp] def c18_10l : List EO := [o 36 (.load 21 true) [t 1],
 o 37 (.faddr 20) [t 1],
 o 38 (.load 1 false) [t 37],
 m 39 3,
 o 40 (.iaS 5) [t 38, t 39],
 o 41 (.faddr 0) [t 40],
 o 42 (.load 1 false) [t 41],
 o 43 (.call 43) [t 36, t 42],
 m 35 43,
 o 44 (.ext 0) [t 35],
 o 45 (.ext 1) [t 35],
 m 4 44,
 m 5 45]
def c18_10 : EC := .rg c18_10l true
@[simp] theorem c18_10e : Rg c18_10 c18_10l true := rgE _ _
@[simp] def c18_11l : List EO := [m 46 4,
 m 47 3,
 o 48 (.bin .neq) [t 46, t 47],
 m 49 48,
 n 50 49 (.load 21 true) [t 1],
 n 51 49 (.faddr 20) [t 1],
 n 52 49 (.load 1 false) [t 51],
 n 53 49 .mv [t 3],
 n 54 49 (.iaS 5) [t 52, t 53],
 n 55 49 (.load 5 true) [t 54],
 n 56 49 (.call 44) [t 50, t 55],
 n 57 49 (.un .not) [t 56],
 o 58 .pick [t 49, b true, t 57]]
def c18_11 : EC := .rg c18_11l true
@[simp] theorem c18_11e : Rg c18_11 c18_11l true := rgE _ _
@[simp] def c18_12l : List EO := [o 2 .mv [b false]]
def c18_12 : EC := .rg c18_12l false
@[simp] theorem c18_12e : Rg c18_12 c18_12l false := rgE _ _
def c18_13 : EC := .sq c18_12 .rt
@[simp] theorem c18_13e : Sq c18_13 c18_12 .rt := sqE _ _
def c18_14 : EC := .cd (t 58) c18_13 .skip
@[simp] theorem c18_14e : Cd c18_14 (t 58) c18_13 .skip := cdE _ _ _
def c18_15 : EC := .sq c18_11 c18_14
@[simp] theorem c18_15e : Sq c18_15 c18_11 c18_14 := sqE _ _
def c18_16 : EC := .sq c18_10 c18_15
@[simp] theorem c18_16e : Sq c18_16 c18_10 c18_15 := sqE _ _
def c18_17 : EC := .bk 1 c18_16
@[simp] theorem c18_17e : Bk c18_17 1 c18_16 := bkE _ _
@[simp] def c18_18l : List EO := [m 33 3,
 o 34 (.bin .add) [t 33, i 1],
 m 3 34]
def c18_18 : EC := .rg c18_18l false
@[simp] theorem c18_18e : Rg c18_18 c18_18l false := rgE _ _
def c18_19 : EC := .sq c18_17 c18_18
@[simp] theorem c18_19e : Sq c18_19 c18_17 c18_18 := sqE _ _
def c18_20 : EC := .sq c18_9 c18_19
@[simp] theorem c18_20e : Sq c18_20 c18_9 c18_19 := sqE _ _
def c18_21 : EC := .bk 0 (.lp c18_20)
@[simp] theorem c18_21e : Bk c18_21 0 (.lp c18_20) := bkE _ _
def c18_22 : EC := .sq c18_6 c18_21
@[simp] theorem c18_22e : Sq c18_22 c18_6 c18_21 := sqE _ _
@[simp] def c18_23l : List EO := [o 2 .mv [b true]]
def c18_23 : EC := .rg c18_23l false
@[simp] theorem c18_23e : Rg c18_23 c18_23l false := rgE _ _
def c18_24 : EC := .sq c18_23 .rt
@[simp] theorem c18_24e : Sq c18_24 c18_23 .rt := sqE _ _
def c18_25 : EC := .sq c18_22 c18_24
@[simp] theorem c18_25e : Sq c18_25 c18_22 c18_24 := sqE _ _
def c18_26 : EC := .sq c18_5 c18_25
@[simp] theorem c18_26e : Sq c18_26 c18_5 c18_25 := sqE _ _
def c18_27 : EC := .sq c18_0 c18_26
@[simp] theorem c18_27e : Sq c18_27 c18_0 c18_26 := sqE _ _
def c_tallystoneref10_Valid_18 : EC := c18_27
theorem k_18 : ecF Try.prog 18 = some (59, c_tallystoneref10_Valid_18, [.tm 2]) := by kernel_rfl

/-- tallystone/tallystoneref07.First -/
@[simp] def c19_0l : List EO := [o 2 .box [t 0],
 o 4 .mv [i 0],
 o 5 .mv [i 0]]
def c19_0 : EC := .rg c19_0l false
@[simp] theorem c19_0e : Rg c19_0 c19_0l false := rgE _ _
@[simp] def c19_1l : List EO := [o 7 (.load 3 true) [t 2],
 m 8 1,
 o 9 (.call 45) [t 7, t 8],
 m 6 9]
def c19_1 : EC := .rg c19_1l false
@[simp] theorem c19_1e : Rg c19_1 c19_1l false := rgE _ _
@[simp] def c19_2l : List EO := [m 10 6,
 o 11 (.bin .neq) [t 10, i 0]]
def c19_2 : EC := .rg c19_2l false
@[simp] theorem c19_2e : Rg c19_2 c19_2l false := rgE _ _
@[simp] def c19_3l : List EO := [m 12 6,
 o 4 .mv [i 0],
 m 5 12]
def c19_3 : EC := .rg c19_3l false
@[simp] theorem c19_3e : Rg c19_3 c19_3l false := rgE _ _
def c19_4 : EC := .sq c19_3 .rt
@[simp] theorem c19_4e : Sq c19_4 c19_3 .rt := sqE _ _
def c19_5 : EC := .cd (t 11) c19_4 .skip
@[simp] theorem c19_5e : Cd c19_5 (t 11) c19_4 .skip := cdE _ _ _
def c19_6 : EC := .sq c19_2 c19_5
@[simp] theorem c19_6e : Sq c19_6 c19_2 c19_5 := sqE _ _
def c19_7 : EC := .sq c19_1 c19_6
@[simp] theorem c19_7e : Sq c19_7 c19_1 c19_6 := sqE _ _
@[simp] def c19_8l : List EO := [o 13 (.load 3 true) [t 2],
 m 14 1,
 o 15 (.call 46) [t 13, t 14],
 o 16 (.ext 0) [t 15],
 o 17 (.ext 1) [t 15],
 m 4 16,
 m 5 17]
def c19_8 : EC := .rg c19_8l false
@[simp] theorem c19_8e : Rg c19_8 c19_8l false := rgE _ _
def c19_9 : EC := .sq c19_8 .rt
@[simp] theorem c19_9e : Sq c19_9 c19_8 .rt := sqE _ _
def c19_10 : EC := .sq c19_7 c19_9
@[simp] theorem c19_10e : Sq c19_10 c19_7 c19_9 := sqE _ _
def c19_11 : EC := .sq c19_0 c19_10
@[simp] theorem c19_11e : Sq c19_11 c19_0 c19_10 := sqE _ _
def c_tallystoneref07_First_19 : EC := c19_11
theorem k_19 : ecF Try.prog 19 = some (18, c_tallystoneref07_First_19, [.tm 4, .tm 5]) := by kernel_rfl

/-- tallystone/tallystoneref07.Last -/
@[simp] def c20_0l : List EO := [o 2 .box [t 0],
 o 4 .mv [i 0],
 o 5 .mv [i 0]]
def c20_0 : EC := .rg c20_0l false
@[simp] theorem c20_0e : Rg c20_0 c20_0l false := rgE _ _
@[simp] def c20_1l : List EO := [o 13 (.load 3 true) [t 2],
 m 14 1,
 o 15 (.call 19) [t 13, t 14],
 m 12 15,
 o 16 (.ext 0) [t 12],
 o 17 (.ext 1) [t 12],
 m 6 16,
 m 7 17]
def c20_1 : EC := .rg c20_1l false
@[simp] theorem c20_1e : Rg c20_1 c20_1l false := rgE _ _
@[simp] def c20_2l : List EO := [m 18 7,
 o 19 (.bin .neq) [t 18, i 0]]
def c20_2 : EC := .rg c20_2l false
@[simp] theorem c20_2e : Rg c20_2 c20_2l false := rgE _ _
@[simp] def c20_3l : List EO := [m 20 7,
 o 4 .mv [i 0],
 m 5 20]
def c20_3 : EC := .rg c20_3l false
@[simp] theorem c20_3e : Rg c20_3 c20_3l false := rgE _ _
def c20_4 : EC := .sq c20_3 .rt
@[simp] theorem c20_4e : Sq c20_4 c20_3 .rt := sqE _ _
def c20_5 : EC := .cd (t 19) c20_4 .skip
@[simp] theorem c20_5e : Cd c20_5 (t 19) c20_4 .skip := cdE _ _ _
def c20_6 : EC := .sq c20_2 c20_5
@[simp] theorem c20_6e : Sq c20_6 c20_2 c20_5 := sqE _ _
@[simp] def c20_7l : List EO := [m 22 6,
 o 23 (.call 47) [t 22],
 m 21 23,
 o 24 (.ext 0) [t 21],
 o 25 (.ext 1) [t 21],
 o 26 (.ext 2) [t 21],
 o 27 (.ext 3) [t 21],
 m 8 24,
 m 9 25,
 m 10 26,
 m 11 27]
def c20_7 : EC := .rg c20_7l false
@[simp] theorem c20_7e : Rg c20_7 c20_7l false := rgE _ _
@[simp] def c20_8l : List EO := [m 28 6,
 m 29 8,
 m 30 9,
 o 31 (.call 48) [t 29, t 30],
 o 32 (.bin .add) [t 28, t 31],
 o 33 (.bin .sub) [t 32, i 1],
 m 4 33,
 o 5 .mv [i 0]]
def c20_8 : EC := .rg c20_8l false
@[simp] theorem c20_8e : Rg c20_8 c20_8l false := rgE _ _
def c20_9 : EC := .sq c20_8 .rt
@[simp] theorem c20_9e : Sq c20_9 c20_8 .rt := sqE _ _
def c20_10 : EC := .sq c20_7 c20_9
@[simp] theorem c20_10e : Sq c20_10 c20_7 c20_9 := sqE _ _
def c20_11 : EC := .sq c20_6 c20_10
@[simp] theorem c20_11e : Sq c20_11 c20_6 c20_10 := sqE _ _
def c20_12 : EC := .sq c20_1 c20_11
@[simp] theorem c20_12e : Sq c20_12 c20_1 c20_11 := sqE _ _
def c20_13 : EC := .sq c20_0 c20_12
@[simp] theorem c20_13e : Sq c20_13 c20_0 c20_12 := sqE _ _
def c_tallystoneref07_Last_20 : EC := c20_13
theorem k_20 : ecF Try.prog 20 = some (34, c_tallystoneref07_Last_20, [.tm 4, .tm 5]) := by kernel_rfl

/-- tallystone/note.All -/
@[simp] def c21_0l : List EO := [o 3 .box [t 0],
 o 4 .box [t 1],
 o 5 .box [t 2],
 o 6 .mv [c (.snil)],
 o 7 .mv [i 0]]
def c21_0 : EC := .rg c21_0l false
@[simp] theorem c21_0e : Rg c21_0 c21_0l false := rgE _ _
@[simp] def c21_1l : List EO := [o 17 (.load 21 true) [t 3],
 o 18 (.faddr 0) [t 5],
 o 19 (.load 1 false) [t 18],
 o 20 (.call 31) [t 17, t 19],
 m 16 20,
 o 21 (.ext 0) [t 16],
 o 22 (.ext 1) [t 16],
 o 23 (.ext 2) [t 16],
 m 8 21,
 m 9 22,
 m 10 23]
def c21_1 : EC := .rg c21_1l false
@[simp] theorem c21_1e : Rg c21_1 c21_1l false := rgE _ _
@[simp] def c21_2l : List EO := [m 24 10,
 o 25 (.bin .neq) [t 24, i 0]]
def c21_2 : EC := .rg c21_2l false
@[simp] theorem c21_2e : Rg c21_2 c21_2l false := rgE _ _
@[simp] def c21_3l : List EO := [m 26 10,
 o 6 .mv [c (.snil)],
 m 7 26]
def c21_3 : EC := .rg c21_3l false
@[simp] theorem c21_3e : Rg c21_3 c21_3l false := rgE _ _
def c21_4 : EC := .sq c21_3 .rt
@[simp] theorem c21_4e : Sq c21_4 c21_3 .rt := sqE _ _
def c21_5 : EC := .cd (t 25) c21_4 .skip
@[simp] theorem c21_5e : Cd c21_5 (t 25) c21_4 .skip := cdE _ _ _
def c21_6 : EC := .sq c21_2 c21_5
@[simp] theorem c21_6e : Sq c21_6 c21_2 c21_5 := sqE _ _
def c21_7 : EC := .sq c21_1 c21_6
@[simp] theorem c21_7e : Sq c21_7 c21_1 c21_6 := sqE _ _
@[simp] def c21_8l : List EO := [o 11 .mv [c (.snil)]]
def c21_8 : EC := .rg c21_8l false
@[simp] theorem c21_8e : Rg c21_8 c21_8l false := rgE _ _
@[simp] def c21_9l : List EO := [o 27 (.faddr 4) [t 3],
 o 28 (.load 1 false) [t 27],
 o 29 .lenL [t 28],
 o 30 .mv [i 0]]
def c21_9 : EC := .rg c21_9l false
@[simp] theorem c21_9e : Rg c21_9 c21_9l false := rgE _ _
@[simp] def c21_10l : List EO := [o 31 (.bin .lss) [t 30, t 29]]
def c21_10 : EC := .rg c21_10l false
@[simp] theorem c21_10e : Rg c21_10 c21_10l false := rgE _ _
def c21_11 : EC := .cd (t 31) .skip (.ex 0)
@[simp] theorem c21_11e : Cd c21_11 (t 31) .skip (.ex 0) := cdE _ _ _
@[simp] def c21_12l : List EO := [o 32 (.iaS 4) [t 28, t 30],
 o 33 (.load 4 true) [t 32],
 o 13 (.alloc [.t (.int .i64 0), .t (.int .i64 0), .t (.int .i64 0), .t (.int .i64 0)]) [],
 u (.store 4) [t 13, t 33]]
def c21_12 : EC := .rg c21_12l false
@[simp] theorem c21_12e : Rg c21_12 c21_12l false := rgE _ _
@[simp] def c21_13l : List EO := [o 35 (.load 21 true) [t 3],
 o 36 (.load 4 true) [t 4],
 o 37 (.load 4 true) [t 5],
 o 38 (.faddr 0) [t 13],
 o 39 (.load 1 false) [t 38],
 o 40 (.call 14) [t 35, t 36, t 37, t 39],
 m 34 40,
 o 41 (.ext 0) [t 34],
 o 42 (.ext 1) [t 34],
 o 14 (.alloc [.t (.int .i64 0), .t (.int .i64 0), .t (.int .i64 0), .t (.int .i64 0), .t (.int .i64 0), .t (.int .i64 0), .t (.int .i64 0), .t (.int .i64 0), .t (.int .i64 0), .t (.int .i64 0), .t (.int .i64 0), .t (.int .i64 0), .t (.int .i64 0), .t (.int .i64 0), .t (.int .i64 0), .t (.int .i64 0)]) [],
 u (.store 16) [t 14, t 41],
 m 15 42]
def c21_13 : EC := .rg c21_13l false
@[simp] theorem c21_13e : Rg c21_13 c21_13l false := rgE _ _
@[simp] def c21_14l : List EO := [m 43 15,
 o 44 (.bin .neq) [t 43, i 0]]
def c21_14 : EC := .rg c21_14l false
@[simp] theorem c21_14e : Rg c21_14 c21_14l false := rgE _ _
@[simp] def c21_15l : List EO := [m 45 15,
 o 6 .mv [c (.snil)],
 m 7 45]
def c21_15 : EC := .rg c21_15l false
@[simp] theorem c21_15e : Rg c21_15 c21_15l false := rgE _ _
def c21_16 : EC := .sq c21_15 .rt
@[simp] theorem c21_16e : Sq c21_16 c21_15 .rt := sqE _ _
def c21_17 : EC := .cd (t 44) c21_16 .skip
@[simp] theorem c21_17e : Cd c21_17 (t 44) c21_16 .skip := cdE _ _ _
def c21_18 : EC := .sq c21_14 c21_17
@[simp] theorem c21_18e : Sq c21_18 c21_14 c21_17 := sqE _ _
@[simp] def c21_19l : List EO := [o 46 (.load 16 true) [t 14],
 o 47 (.call 36) [t 46],
 o 48 (.call 35) [t 47, c (.fn (.func 49) [])]]
def c21_19 : EC := .rg c21_19l false
@[simp] theorem c21_19e : Rg c21_19 c21_19l false := rgE _ _
@[simp] def c21_20l : List EO := [m 49 11,
 o 50 (.load 16 true) [t 14],
 o 51 (.bsl 16) [t 50],
 o 52 (.app 44 16 128) [t 49, t 51],
 m 11 52]
def c21_20 : EC := .rg c21_20l false
@[simp] theorem c21_20e : Rg c21_20 c21_20l false := rgE _ _
def c21_21 : EC := .cd (t 48) c21_20 .skip
@[simp] theorem c21_21e : Cd c21_21 (t 48) c21_20 .skip := cdE _ _ _
def c21_22 : EC := .sq c21_19 c21_21
@[simp] theorem c21_22e : Sq c21_22 c21_19 c21_21 := sqE _ _
def c21_23 : EC := .sq c21_18 c21_22
@[simp] theorem c21_23e : Sq c21_23 c21_18 c21_22 := sqE _ _
def c21_24 : EC := .sq c21_13 c21_23
@[simp] theorem c21_24e : Sq c21_24 c21_13 c21_23 := sqE _ _
def c21_25 : EC := .sq c21_12 c21_24
@[simp] theorem c21_25e : Sq c21_25 c21_12 c21_24 := sqE _ _
def c21_26 : EC := .bk 1 c21_25
@[simp] theorem c21_26e : Bk c21_26 1 c21_25 := bkE _ _
@[simp] def c21_27l : List EO := [o 53 (.bin .add) [t 30, i 1],
 m 30 53]
def c21_27 : EC := .rg c21_27l false
@[simp] theorem c21_27e : Rg c21_27 c21_27l false := rgE _ _
def c21_28 : EC := .sq c21_26 c21_27
@[simp] theorem c21_28e : Sq c21_28 c21_26 c21_27 := sqE _ _
def c21_29 : EC := .sq c21_11 c21_28
@[simp] theorem c21_29e : Sq c21_29 c21_11 c21_28 := sqE _ _
def c21_30 : EC := .sq c21_10 c21_29
@[simp] theorem c21_30e : Sq c21_30 c21_10 c21_29 := sqE _ _
def c21_31 : EC := .bk 0 (.lp c21_30)
@[simp] theorem c21_31e : Bk c21_31 0 (.lp c21_30) := bkE _ _
def c21_32 : EC := .sq c21_9 c21_31
@[simp] theorem c21_32e : Sq c21_32 c21_9 c21_31 := sqE _ _
@[simp] def c21_33l : List EO := [m 54 11,
 m 6 54,
 o 7 .mv [i 0]]
def c21_33 : EC := .rg c21_33l false
@[simp] theorem c21_33e : Rg c21_33 c21_33l false := rgE _ _
def c21_34 : EC := .sq c21_33 .rt
@[simp] theorem c21_34e : Sq c21_34 c21_33 .rt := sqE _ _
def c21_35 : EC := .sq c21_32 c21_34
@[simp] theorem c21_35e : Sq c21_35 c21_32 c21_34 := sqE _ _
def c21_36 : EC := .sq c21_8 c21_35
@[simp] theorem c21_36e : Sq c21_36 c21_8 c21_35 := sqE _ _
def c21_37 : EC := .sq c21_7 c21_36
@[simp] theorem c21_37e : Sq c21_37 c21_7 c21_36 := sqE _ _
def c21_38 : EC := .sq c21_0 c21_37
@[simp] theorem c21_38e : Sq c21_38 c21_0 c21_37 := sqE _ _
def c_note_All_21 : EC := c21_38
theorem k_21 : ecF Try.prog 21 = some (55, c_note_All_21, [.tm 6, .tm 7]) := by kernel_rfl

/-- tallystone/note.All, with slices that grow in boxes -/
@[simp] def b21_0l : List EO := [o 3 .box [t 0],
 o 4 .box [t 1],
 o 5 .box [t 2],
 o 6 .mv [c (.snil)],
 o 7 .mv [i 0]]
def b21_0 : EC := .rg b21_0l false
@[simp] theorem b21_0e : Rg b21_0 b21_0l false := rgE _ _
@[simp] def b21_1l : List EO := [o 17 (.load 21 true) [t 3],
 o 18 (.faddr 0) [t 5],
 o 19 (.load 1 false) [t 18],
 o 20 (.call 31) [t 17, t 19],
 m 16 20,
 o 21 (.ext 0) [t 16],
 o 22 (.ext 1) [t 16],
 o 23 (.ext 2) [t 16],
 m 8 21,
 m 9 22,
 m 10 23]
def b21_1 : EC := .rg b21_1l false
@[simp] theorem b21_1e : Rg b21_1 b21_1l false := rgE _ _
@[simp] def b21_2l : List EO := [m 24 10,
 o 25 (.bin .neq) [t 24, i 0]]
def b21_2 : EC := .rg b21_2l false
@[simp] theorem b21_2e : Rg b21_2 b21_2l false := rgE _ _
@[simp] def b21_3l : List EO := [m 26 10,
 o 6 .mv [c (.snil)],
 m 7 26]
def b21_3 : EC := .rg b21_3l false
@[simp] theorem b21_3e : Rg b21_3 b21_3l false := rgE _ _
def b21_4 : EC := .sq b21_3 .rt
@[simp] theorem b21_4e : Sq b21_4 b21_3 .rt := sqE _ _
def b21_5 : EC := .cd (t 25) b21_4 .skip
@[simp] theorem b21_5e : Cd b21_5 (t 25) b21_4 .skip := cdE _ _ _
def b21_6 : EC := .sq b21_2 b21_5
@[simp] theorem b21_6e : Sq b21_6 b21_2 b21_5 := sqE _ _
def b21_7 : EC := .sq b21_1 b21_6
@[simp] theorem b21_7e : Sq b21_7 b21_1 b21_6 := sqE _ _
@[simp] def b21_8l : List EO := [o 11 .mv [c (.snil)]]
def b21_8 : EC := .rg b21_8l false
@[simp] theorem b21_8e : Rg b21_8 b21_8l false := rgE _ _
@[simp] def b21_9l : List EO := [o 27 (.faddr 4) [t 3],
 o 28 (.load 1 false) [t 27],
 o 29 .lenL [t 28],
 o 30 .mv [i 0]]
def b21_9 : EC := .rg b21_9l false
@[simp] theorem b21_9e : Rg b21_9 b21_9l false := rgE _ _
@[simp] def b21_10l : List EO := [o 31 (.bin .lss) [t 30, t 29]]
def b21_10 : EC := .rg b21_10l false
@[simp] theorem b21_10e : Rg b21_10 b21_10l false := rgE _ _
def b21_11 : EC := .cd (t 31) .skip (.ex 0)
@[simp] theorem b21_11e : Cd b21_11 (t 31) .skip (.ex 0) := cdE _ _ _
@[simp] def b21_12l : List EO := [o 32 (.iaS 4) [t 28, t 30],
 o 33 (.load 4 true) [t 32],
 o 13 (.alloc [.t (.int .i64 0), .t (.int .i64 0), .t (.int .i64 0), .t (.int .i64 0)]) [],
 u (.store 4) [t 13, t 33]]
def b21_12 : EC := .rg b21_12l false
@[simp] theorem b21_12e : Rg b21_12 b21_12l false := rgE _ _
@[simp] def b21_13l : List EO := [o 35 (.load 21 true) [t 3],
 o 36 (.load 4 true) [t 4],
 o 37 (.load 4 true) [t 5],
 o 38 (.faddr 0) [t 13],
 o 39 (.load 1 false) [t 38],
 o 40 (.call 14) [t 35, t 36, t 37, t 39],
 m 34 40,
 o 41 (.ext 0) [t 34],
 o 42 (.ext 1) [t 34],
 o 14 (.alloc [.t (.int .i64 0), .t (.int .i64 0), .t (.int .i64 0), .t (.int .i64 0), .t (.int .i64 0), .t (.int .i64 0), .t (.int .i64 0), .t (.int .i64 0), .t (.int .i64 0), .t (.int .i64 0), .t (.int .i64 0), .t (.int .i64 0), .t (.int .i64 0), .t (.int .i64 0), .t (.int .i64 0), .t (.int .i64 0)]) [],
 u (.store 16) [t 14, t 41],
 m 15 42]
def b21_13 : EC := .rg b21_13l false
@[simp] theorem b21_13e : Rg b21_13 b21_13l false := rgE _ _
@[simp] def b21_14l : List EO := [m 43 15,
 o 44 (.bin .neq) [t 43, i 0]]
def b21_14 : EC := .rg b21_14l false
@[simp] theorem b21_14e : Rg b21_14 b21_14l false := rgE _ _
@[simp] def b21_15l : List EO := [m 45 15,
 o 6 .mv [c (.snil)],
 m 7 45]
def b21_15 : EC := .rg b21_15l false
@[simp] theorem b21_15e : Rg b21_15 b21_15l false := rgE _ _
def b21_16 : EC := .sq b21_15 .rt
@[simp] theorem b21_16e : Sq b21_16 b21_15 .rt := sqE _ _
def b21_17 : EC := .cd (t 44) b21_16 .skip
@[simp] theorem b21_17e : Cd b21_17 (t 44) b21_16 .skip := cdE _ _ _
def b21_18 : EC := .sq b21_14 b21_17
@[simp] theorem b21_18e : Sq b21_18 b21_14 b21_17 := sqE _ _
@[simp] def b21_19l : List EO := [o 46 (.load 16 true) [t 14],
 o 47 (.call 36) [t 46],
 o 48 (.call 35) [t 47, c (.fn (.func 49) [])]]
def b21_19 : EC := .rg b21_19l false
@[simp] theorem b21_19e : Rg b21_19 b21_19l false := rgE _ _
@[simp] def b21_20l : List EO := [m 49 11,
 o 50 (.load 16 true) [t 14],
 o 51 (.bsl 16) [t 50],
 o 52 (.appB 44 16 128) [t 49, t 51],
 m 11 52]
def b21_20 : EC := .rg b21_20l false
@[simp] theorem b21_20e : Rg b21_20 b21_20l false := rgE _ _
def b21_21 : EC := .cd (t 48) b21_20 .skip
@[simp] theorem b21_21e : Cd b21_21 (t 48) b21_20 .skip := cdE _ _ _
def b21_22 : EC := .sq b21_19 b21_21
@[simp] theorem b21_22e : Sq b21_22 b21_19 b21_21 := sqE _ _
def b21_23 : EC := .sq b21_18 b21_22
@[simp] theorem b21_23e : Sq b21_23 b21_18 b21_22 := sqE _ _
def b21_24 : EC := .sq b21_13 b21_23
@[simp] theorem b21_24e : Sq b21_24 b21_13 b21_23 := sqE _ _
def b21_25 : EC := .sq b21_12 b21_24
@[simp] theorem b21_25e : Sq b21_25 b21_12 b21_24 := sqE _ _
def b21_26 : EC := .bk 1 b21_25
@[simp] theorem b21_26e : Bk b21_26 1 b21_25 := bkE _ _
@[simp] def b21_27l : List EO := [o 53 (.bin .add) [t 30, i 1],
 m 30 53]
def b21_27 : EC := .rg b21_27l false
@[simp] theorem b21_27e : Rg b21_27 b21_27l false := rgE _ _
def b21_28 : EC := .sq b21_26 b21_27
@[simp] theorem b21_28e : Sq b21_28 b21_26 b21_27 := sqE _ _
def b21_29 : EC := .sq b21_11 b21_28
@[simp] theorem b21_29e : Sq b21_29 b21_11 b21_28 := sqE _ _
def b21_30 : EC := .sq b21_10 b21_29
@[simp] theorem b21_30e : Sq b21_30 b21_10 b21_29 := sqE _ _
def b21_31 : EC := .bk 0 (.lp b21_30)
@[simp] theorem b21_31e : Bk b21_31 0 (.lp b21_30) := bkE _ _
def b21_32 : EC := .sq b21_9 b21_31
@[simp] theorem b21_32e : Sq b21_32 b21_9 b21_31 := sqE _ _
@[simp] def b21_33l : List EO := [m 54 11,
 m 6 54,
 o 7 .mv [i 0]]
def b21_33 : EC := .rg b21_33l false
@[simp] theorem b21_33e : Rg b21_33 b21_33l false := rgE _ _
def b21_34 : EC := .sq b21_33 .rt
@[simp] theorem b21_34e : Sq b21_34 b21_33 .rt := sqE _ _
def b21_35 : EC := .sq b21_32 b21_34
@[simp] theorem b21_35e : Sq b21_35 b21_32 b21_34 := sqE _ _
def b21_36 : EC := .sq b21_8 b21_35
@[simp] theorem b21_36e : Sq b21_36 b21_8 b21_35 := sqE _ _
def b21_37 : EC := .sq b21_7 b21_36
@[simp] theorem b21_37e : Sq b21_37 b21_7 b21_36 := sqE _ _
def b21_38 : EC := .sq b21_0 b21_37
@[simp] theorem b21_38e : Sq b21_38 b21_0 b21_37 := sqE _ _
def b_note_All_21 : EC := b21_38
theorem kb_21 : ecB Try.prog 21 = some (55, b_note_All_21, [.tm 6, .tm 7]) := by kernel_rfl

/-- tallystone/tallystoneref52.All -/
@[simp] def c22_0l : List EO := [o 3 .box [t 0],
 o 4 .box [t 1],
 o 5 .box [t 2],
 o 6 .mv [c (.snil)],
 o 7 .mv [i 0]]
def c22_0 : EC := .rg c22_0l false
@[simp] theorem c22_0e : Rg c22_0 c22_0l false := rgE _ _
@[simp] def c22_1l : List EO := [o 12 (.load 21 true) [t 3],
 o 13 (.call 18) [t 12],
 o 14 (.un .not) [t 13]]
def c22_1 : EC := .rg c22_1l false
@[simp] theorem c22_1e : Rg c22_1 c22_1l false := rgE _ _
@[simp] def c22_2l : List EO := [o 6 .mv [c (.snil)],
 o 7 .mv [i 1]]
def c22_2 : EC := .rg c22_2l false
@[simp] theorem c22_2e : Rg c22_2 c22_2l false := rgE _ _
def c22_3 : EC := .sq c22_2 .rt
@[simp] theorem c22_3e : Sq c22_3 c22_2 .rt := sqE _ _
def c22_4 : EC := .cd (t 14) c22_3 .skip
@[simp] theorem c22_4e : Cd c22_4 (t 14) c22_3 .skip := cdE _ _ _
def c22_5 : EC := .sq c22_1 c22_4
@[simp] theorem c22_5e : Sq c22_5 c22_1 c22_4 := sqE _ _
@[simp] def c22_6l : List EO := [o 8 .mv [c (.snil)]]
def c22_6 : EC := .rg c22_6l false
@[simp] theorem c22_6e : Rg c22_6 c22_6l false := rgE _ _
@[simp] def c22_7l : List EO := [o 9 .mv [i 0]]
def c22_7 : EC := .rg c22_7l false
@[simp] theorem c22_7e : Rg c22_7 c22_7l false := rgE _ _
@[simp] def c22_8l : List EO := [m 15 9,
 o 16 (.faddr 4) [t 3],
 o 17 (.load 1 false) [t 16],
 o 18 .lenL [t 17],
 o 19 (.bin .lss) [t 15, t 18]]
def c22_8 : EC := .rg c22_8l false
@[simp] theorem c22_8e : Rg c22_8 c22_8l false := rgE _ _
def c22_9 : EC := .cd (t 19) .skip (.ex 0)
@[simp] theorem c22_9e : Cd c22_9 (t 19) .skip (.ex 0) := cdE _ _ _
def c22_10 : EC := .sq c22_8 c22_9
@[simp] theorem c22_10e : Sq c22_10 c22_8 c22_9 := sqE _ _
@[simp] def c22_11l : List EO := [o 23 (.load 21 true) [t 3],
 o 24 (.load 4 true) [t 4],
 o 25 (.load 4 true) [t 5],
 o 26 (.faddr 4) [t 3],
 o 27 (.load 1 false) [t 26],
 m 28 9,
 o 29 (.iaS 4) [t 27, t 28],
 o 30 (.faddr 0) [t 29],
 o 31 (.load 1 false) [t 30],
 o 32 (.call 15) [t 23, t 24, t 25, t 31],
 m 22 32,
 o 33 (.ext 0) [t 22],
 o 34 (.ext 1) [t 22],
 o 10 (.alloc [.t (.int .i64 0), .t (.int .i64 0), .t (.int .i64 0), .t (.int .i64 0), .t (.int .i64 0), .t (.int .i64 0), .t (.int .i64 0), .t (.int .i64 0), .t (.int .i64 0), .t (.int .i64 0), .t (.int .i64 0), .t (.int .i64 0), .t (.int .i64 0), .t (.int .i64 0), .t (.int .i64 0), .t (.int .i64 0)]) [],
 u (.store 16) [t 10, t 33],
 m 11 34]
def c22_11 : EC := .rg c22_11l true
@[simp] theorem c22_11e : Rg c22_11 c22_11l true := rgE _ _
@[simp] def c22_12l : List EO := [m 35 11,
 o 36 (.bin .neq) [t 35, i 0]]
def c22_12 : EC := .rg c22_12l false
@[simp] theorem c22_12e : Rg c22_12 c22_12l false := rgE _ _
@[simp] def c22_13l : List EO := [m 37 11,
 o 6 .mv [c (.snil)],
 m 7 37]
def c22_13 : EC := .rg c22_13l false
@[simp] theorem c22_13e : Rg c22_13 c22_13l false := rgE _ _
def c22_14 : EC := .sq c22_13 .rt
@[simp] theorem c22_14e : Sq c22_14 c22_13 .rt := sqE _ _
def c22_15 : EC := .cd (t 36) c22_14 .skip
@[simp] theorem c22_15e : Cd c22_15 (t 36) c22_14 .skip := cdE _ _ _
def c22_16 : EC := .sq c22_12 c22_15
@[simp] theorem c22_16e : Sq c22_16 c22_12 c22_15 := sqE _ _
@[simp] def c22_17l : List EO := [o 38 (.load 16 true) [t 10],
 o 39 (.faddr 4) [t 3],
 o 40 (.load 1 false) [t 39],
 m 41 9,
 o 42 (.iaS 4) [t 40, t 41],
 o 43 (.faddr 0) [t 42],
 o 44 (.load 1 false) [t 43],
 o 45 (.build [.t (.int .i64 0), .t (.int .i64 0), .t (.int .i64 0), .t (.int .i64 0), .t (.int .i64 0), .t (.int .i64 0), .t (.int .i64 0), .t (.int .i64 0), .t (.int .i64 0), .t (.int .i64 0), .t (.int .i64 0), .t (.int .i64 0), .t (.int .i64 0), .t (.int .i64 0), .t (.int .i64 0), .t (.int .i64 0)] [(0, 1)]) [t 44],
 o 46 (.eqv true true [1, 1, 1, 1, 1, 1, 1, 1, 1, 1, 1, 1, 1, 1, 1, 1]) [t 38, t 45]]
def c22_17 : EC := .rg c22_17l true
@[simp] theorem c22_17e : Rg c22_17 c22_17l true := rgE _ _
@[simp] def c22_18l : List EO := [m 47 8,
 o 48 (.load 16 true) [t 10],
 o 49 (.bsl 16) [t 48],
 o 50 (.app 47 16 128) [t 47, t 49],
 m 8 50]
def c22_18 : EC := .rg c22_18l false
@[simp] theorem c22_18e : Rg c22_18 c22_18l false := rgE _ _
def c22_19 : EC := .cd (t 46) c22_18 .skip
@[simp] theorem c22_19e : Cd c22_19 (t 46) c22_18 .skip := cdE _ _ _
def c22_20 : EC := .sq c22_17 c22_19
@[simp] theorem c22_20e : Sq c22_20 c22_17 c22_19 := sqE _ _
def c22_21 : EC := .sq c22_16 c22_20
@[simp] theorem c22_21e : Sq c22_21 c22_16 c22_20 := sqE _ _
def c22_22 : EC := .sq c22_11 c22_21
@[simp] theorem c22_22e : Sq c22_22 c22_11 c22_21 := sqE _ _
def c22_23 : EC := .bk 1 c22_22
@[simp] theorem c22_23e : Bk c22_23 1 c22_22 := bkE _ _
@[simp] def c22_24l : List EO := [m 20 9,
 o 21 (.bin .add) [t 20, i 1],
 m 9 21]
def c22_24 : EC := .rg c22_24l false
@[simp] theorem c22_24e : Rg c22_24 c22_24l false := rgE _ _
def c22_25 : EC := .sq c22_23 c22_24
@[simp] theorem c22_25e : Sq c22_25 c22_23 c22_24 := sqE _ _
def c22_26 : EC := .sq c22_10 c22_25
@[simp] theorem c22_26e : Sq c22_26 c22_10 c22_25 := sqE _ _
def c22_27 : EC := .bk 0 (.lp c22_26)
@[simp] theorem c22_27e : Bk c22_27 0 (.lp c22_26) := bkE _ _
def c22_28 : EC := .sq c22_7 c22_27
@[simp] theorem c22_28e : Sq c22_28 c22_7 c22_27 := sqE _ _
@[simp] def c22_29l : List EO := [m 51 8,
 m 6 51,
 o 7 .mv [i 0]]
def c22_29 : EC := .rg c22_29l false
@[simp] theorem c22_29e : Rg c22_29 c22_29l false := rgE _ _
def c22_30 : EC := .sq c22_29 .rt
@[simp] theorem c22_30e : Sq c22_30 c22_29 .rt := sqE _ _
def c22_31 : EC := .sq c22_28 c22_30
@[simp] theorem c22_31e : Sq c22_31 c22_28 c22_30 := sqE _ _
def c22_32 : EC := .sq c22_6 c22_31
@[simp] theorem c22_32e : Sq c22_32 c22_6 c22_31 := sqE _ _
def c22_33 : EC := .sq c22_5 c22_32
@[simp] theorem c22_33e : Sq c22_33 c22_5 c22_32 := sqE _ _
def c22_34 : EC := .sq c22_0 c22_33
@[simp] theorem c22_34e : Sq c22_34 c22_0 c22_33 := sqE _ _
def c_tallystoneref52_All_22 : EC := c22_34
theorem k_22 : ecF Try.prog 22 = some (52, c_tallystoneref52_All_22, [.tm 6, .tm 7]) := by kernel_rfl

/-- tallystone/tallystoneref52.All, with slices that grow in boxes -/
@[simp] def b22_0l : List EO := [o 3 .box [t 0],
 o 4 .box [t 1],
 o 5 .box [t 2],
 o 6 .mv [c (.snil)],
 o 7 .mv [i 0]]
def b22_0 : EC := .rg b22_0l false
@[simp] theorem b22_0e : Rg b22_0 b22_0l false := rgE _ _
@[simp] def b22_1l : List EO := [o 12 (.load 21 true) [t 3],
 o 13 (.call 18) [t 12],
 o 14 (.un .not) [t 13]]
def b22_1 : EC := .rg b22_1l false
@[simp] theorem b22_1e : Rg b22_1 b22_1l false := rgE _ _
@[simp] def b22_2l : List EO := [o 6 .mv [c (.snil)],
 o 7 .mv [i 1]]
def b22_2 : EC := .rg b22_2l false
@[simp] theorem b22_2e : Rg b22_2 b22_2l false := rgE _ _
def b22_3 : EC := .sq b22_2 .rt
@[simp] theorem b22_3e : Sq b22_3 b22_2 .rt := sqE _ _
def b22_4 : EC := .cd (t 14) b22_3 .skip
@[simp] theorem b22_4e : Cd b22_4 (t 14) b22_3 .skip := cdE _ _ _
def b22_5 : EC := .sq b22_1 b22_4
@[simp] theorem b22_5e : Sq b22_5 b22_1 b22_4 := sqE _ _
@[simp] def b22_6l : List EO := [o 8 .mv [c (.snil)]]
def b22_6 : EC := .rg b22_6l false
@[simp] theorem b22_6e : Rg b22_6 b22_6l false := rgE _ _
@[simp] def b22_7l : List EO := [o 9 .mv [i 0]]
def b22_7 : EC := .rg b22_7l false
@[simp] theorem b22_7e : Rg b22_7 b22_7l false := rgE _ _
@[simp] def b22_8l : List EO := [m 15 9,
 o 16 (.faddr 4) [t 3],
 o 17 (.load 1 false) [t 16],
 o 18 .lenL [t 17],
 o 19 (.bin .lss) [t 15, t 18]]
def b22_8 : EC := .rg b22_8l false
@[simp] theorem b22_8e : Rg b22_8 b22_8l false := rgE _ _
def b22_9 : EC := .cd (t 19) .skip (.ex 0)
@[simp] theorem b22_9e : Cd b22_9 (t 19) .skip (.ex 0) := cdE _ _ _
def b22_10 : EC := .sq b22_8 b22_9
@[simp] theorem b22_10e : Sq b22_10 b22_8 b22_9 := sqE _ _
@[simp] def b22_11l : List EO := [o 23 (.load 21 true) [t 3],
 o 24 (.load 4 true) [t 4],
 o 25 (.load 4 true) [t 5],
 o 26 (.faddr 4) [t 3],
 o 27 (.load 1 false) [t 26],
 m 28 9,
 o 29 (.iaS 4) [t 27, t 28],
 o 30 (.faddr 0) [t 29],
 o 31 (.load 1 false) [t 30],
 o 32 (.call 15) [t 23, t 24, t 25, t 31],
 m 22 32,
 o 33 (.ext 0) [t 22],
 o 34 (.ext 1) [t 22],
 o 10 (.alloc [.t (.int .i64 0), .t (.int .i64 0), .t (.int .i64 0), .t (.int .i64 0), .t (.int .i64 0), .t (.int .i64 0), .t (.int .i64 0), .t (.int .i64 0), .t (.int .i64 0), .t (.int .i64 0), .t (.int .i64 0), .t (.int .i64 0), .t (.int .i64 0), .t (.int .i64 0), .t (.int .i64 0), .t (.int .i64 0)]) [],
 u (.store 16) [t 10, t 33],
 m 11 34]
def b22_11 : EC := .rg b22_11l true
@[simp] theorem b22_11e : Rg b22_11 b22_11l true := rgE _ _
@[simp] def b22_12l : List EO := [m 35 11,
 o 36 (.bin .neq) [t 35, i 0]]
def b22_12 : EC := .rg b22_12l false
@[simp] theorem b22_12e : Rg b22_12 b22_12l false := rgE _ _
@[simp] def b22_13l : List EO := [m 37 11,
 o 6 .mv [c (.snil)],
 m 7 37]
def b22_13 : EC := .rg b22_13l false
@[simp] theorem b22_13e : Rg b22_13 b22_13l false := rgE _ _
def b22_14 : EC := .sq b22_13 .rt
@[simp] theorem b22_14e : Sq b22_14 b22_13 .rt := sqE _ _
def b22_15 : EC := .cd (t 36) b22_14 .skip
@[simp] theorem b22_15e : Cd b22_15 (t 36) b22_14 .skip := cdE _ _ _
def b22_16 : EC := .sq b22_12 b22_15
@[simp] theorem b22_16e : Sq b22_16 b22_12 b22_15 := sqE _ _
@[simp] def b22_17l : List EO := [o 38 (.load 16 true) [t 10],
 o 39 (.faddr 4) [t 3],
 o 40 (.load 1 false) [t 39],
 m 41 9,
 o 42 (.iaS 4) [t 40, t 41],
 o 43 (.faddr 0) [t 42],
 o 44 (.load 1 false) [t 43],
 o 45 (.build [.t (.int .i64 0), .t (.int .i64 0), .t (.int .i64 0), .t (.int .i64 0), .t (.int .i64 0), .t (.int .i64 0), .t (.int .i64 0), .t (.int .i64 0), .t (.int .i64 0), .t (.int .i64 0), .t (.int .i64 0), .t (.int .i64 0), .t (.int .i64 0), .t (.int .i64 0), .t (.int .i64 0), .t (.int .i64 0)] [(0, 1)]) [t 44],
 o 46 (.eqv true true [1, 1, 1, 1, 1, 1, 1, 1, 1, 1, 1, 1, 1, 1, 1, 1]) [t 38, t 45]]
def b22_17 : EC := .rg b22_17l true
@[simp] theorem b22_17e : Rg b22_17 b22_17l true := rgE _ _
@[simp] def b22_18l : List EO := [m 47 8,
 o 48 (.load 16 true) [t 10],
 o 49 (.bsl 16) [t 48],
 o 50 (.appB 47 16 128) [t 47, t 49],
 m 8 50]
def b22_18 : EC := .rg b22_18l false
@[simp] theorem b22_18e : Rg b22_18 b22_18l false := rgE _ _
def b22_19 : EC := .cd (t 46) b22_18 .skip
@[simp] theorem b22_19e : Cd b22_19 (t 46) b22_18 .skip := cdE _ _ _
def b22_20 : EC := .sq b22_17 b22_19
@[simp] theorem b22_20e : Sq b22_20 b22_17 b22_19 := sqE _ _
def b22_21 : EC := .sq b22_16 b22_20
@[simp] theorem b22_21e : Sq b22_21 b22_16 b22_20 := sqE _ _
def b22_22 : EC := .sq b22_11 b22_21
@[simp] theorem b22_22e : Sq b22_22 b22_11 b22_21 := sqE _ _
def b22_23 : EC := .bk 1 b22_22
@[simp] theorem b22_23e : Bk b22_23 1 b22_22 := bkE _ _
@[simp] def b22_24l : List EO := [m 20 9,
 o 21 (.bin .add) [t 20, i 1],
 m 9 21]
def b22_24 : EC := .rg b22_24l false
@[simp] theorem b22_24e : Rg b22_24 b22_24l false := rgE _ _
def b22_25 : EC := .sq b22_23 b22_24
@[simp] theorem b22_25e : Sq b22_25 b22_23 b22_24 := sqE _ _
def b22_26 : EC := .sq b22_10 b22_25
@[simp] theorem b22_26e : Sq b22_26 b22_10 b22_25 := sqE _ _
def b22_27 : EC := .bk 0 (.lp b22_26)
@[simp] theorem b22_27e : Bk b22_27 0 (.lp b22_26) := bkE _ _
def b22_28 : EC := .sq b22_7 b22_27
@[simp] theorem b22_28e : Sq b22_28 b22_7 b22_27 := sqE _ _
@[simp] def b22_29l : List EO := [m 51 8,
 m 6 51,
 o 7 .mv [i 0]]
def b22_29 : EC := .rg b22_29l false
@[simp] theorem b22_29e : Rg b22_29 b22_29l false := rgE _ _
def b22_30 : EC := .sq b22_29 .rt
@[simp] theorem b22_30e : Sq b22_30 b22_29 .rt := sqE _ _
def b22_31 : EC := .sq b22_28 b22_30
@[simp] theorem b22_31e : Sq b22_31 b22_28 b22_30 := sqE _ _
def b22_32 : EC := .sq b22_6 b22_31
@[simp] theorem b22_32e : Sq b22_32 b22_6 b22_31 := sqE _ _
def b22_33 : EC := .sq b22_5 b22_32
@[simp] theorem b22_33e : Sq b22_33 b22_5 b22_32 := sqE _ _
def b22_34 : EC := .sq b22_0 b22_33
@[simp] theorem b22_34e : Sq b22_34 b22_0 b22_33 := sqE _ _
def b_tallystoneref52_All_22 : EC := b22_34
theorem kb_22 : ecB Try.prog 22 = some (52, b_tallystoneref52_All_22, [.tm 6, .tm 7]) := by kernel_rfl

/-- tallystone/tallystoneref52.Same -/
@[simp] def c23_0l : List EO := [o 4 .mv [b false]]
def c23_0 : EC := .rg c23_0l false
@[simp] theorem c23_0e : Rg c23_0 c23_0l false := rgE _ _
@[simp] def c23_1l : List EO := [m 6 0,
 o 7 .lenL [t 6],
 m 8 1,
 o 9 .lenL [t 8],
 o 10 (.bin .neq) [t 7, t 9]]
def c23_1 : EC := .rg c23_1l false
@[simp] theorem c23_1e : Rg c23_1 c23_1l false := rgE _ _
@[simp] def c23_2l : List EO := [o 4 .mv [b false]]
def c23_2 : EC := .rg c23_2l false
@[simp] theorem c23_2e : Rg c23_2 c23_2l false := rgE _ _
def c23_3 : EC := .sq c23_2 .rt
@[simp] theorem c23_3e : Sq c23_3 c23_2 .rt := sqE _ _
def c23_4 : EC := .cd (t 10) c23_3 .skip
@[simp] theorem c23_4e : Cd c23_4 (t 10) c23_3 .skip := cdE _ _ _
def c23_5 : EC := .sq c23_1 c23_4
@[simp] theorem c23_5e : Sq c23_5 c23_1 c23_4 := sqE _ _
@[simp] def c23_6l : List EO := [o 5 .mv [i 0]]
def c23_6 : EC := .rg c23_6l false
@[simp] theorem c23_6e : Rg c23_6 c23_6l false := rgE _ _
@[simp] def c23_7l : List EO := [m 11 5,
 m 12 0,
 o 13 .lenL [t 12],
 o 14 (.bin .lss) [t 11, t 13]]
def c23_7 : EC := .rg c23_7l false
@[simp] theorem c23_7e : Rg c23_7 c23_7l false := rgE _ _
def c23_8 : EC := .cd (t 14) .skip (.ex 0)
@[simp] theorem c23_8e : Cd c23_8 (t 14) .skip (.ex 0) := cdE _ _ _
def c23_9 : EC := .sq c23_7 c23_8
@[simp] theorem c23_9e : Sq c23_9 c23_7 c23_8 := sqE _ _
@[simp] def c23_10l : List EO := [m 17 0,
 m 18 5,
 o 19 (.iaS 16) [t 17, t 18],
 o 20 (.load 16 true) [t 19],
 m 21 1,
 m 22 5,
 o 23 (.iaS 16) [t 21, t 22],
 o 24 (.load 16 true) [t 23],
 o 25 (.eqv true true [1, 1, 1, 1, 1, 1, 1, 1, 1, 1, 1, 1, 1, 1, 1, 1]) [t 20, t 24]]
def c23_10 : EC := .rg c23_10l true
@[simp] theorem c23_10e : Rg c23_10 c23_10l true := rgE _ _
@[simp] def c23_11l : List EO := [o 4 .mv [b false]]
def c23_11 : EC := .rg c23_11l false
@[simp] theorem c23_11e : Rg c23_11 c23_11l false := rgE _ _
def c23_12 : EC := .sq c23_11 .rt
@[simp] theorem c23_12e : Sq c23_12 c23_11 .rt := sqE _ _
def c23_13 : EC := .cd (t 25) c23_12 .skip
@[simp] theorem c23_13e : Cd c23_13 (t 25) c23_12 .skip := cdE _ _ _
def c23_14 : EC := .sq c23_10 c23_13
@[simp] theorem c23_14e : Sq c23_14 c23_10 c23_13 := sqE _ _
def c23_15 : EC := .bk 1 c23_14
@[simp] theorem c23_15e : Bk c23_15 1 c23_14 := bkE _ _
@[simp] def c23_16l : List EO := [m 15 5,
 o 16 (.bin .add) [t 15, i 1],
 m 5 16]
def c23_16 : EC := .rg c23_16l false
@[simp] theorem c23_16e : Rg c23_16 c23_16l false := rgE _ _
def c23_17 : EC := .sq c23_15 c23_16
@[simp] theorem c23_17e : Sq c23_17 c23_15 c23_16 := sqE _ _
def c23_18 : EC := .sq c23_9 c23_17
@[simp] theorem c23_18e : Sq c23_18 c23_9 c23_17 := sqE _ _
def c23_19 : EC := .bk 0 (.lp c23_18)
@[simp] theorem c23_19e : Bk c23_19 0 (.lp c23_18) := bkE _ _
def c23_20 : EC := .sq c23_6 c23_19
@[simp] theorem c23_20e : Sq c23_20 c23_6 c23_19 := sqE _ _
@[simp] def c23_21l : List EO := [o 4 .mv [b true]]
def c23_21 : EC := .rg c23_21l false
@[simp] theorem c23_21e : Rg c23_21 c23_21l false := rgE _ _
def c23_22 : EC := .sq c23_21 .rt
@[simp] theorem c23_22e : Sq c23_22 c23_21 .rt := sqE _ _
def c23_23 : EC := .sq c23_20 c23_22
@[simp] theorem c23_23e : Sq c23_23 c23_20 c23_22 := sqE _ _
def c23_24 : EC := .sq c23_5 c23_23
@[simp] theorem c23_24e : Sq c23_24 c23_5 c23_23 := sqE _ _
def c23_25 : EC := .sq c23_0 c23_24
@[simp] theorem c23_25e : Sq c23_25 c23_0 c23_24 := sqE _ _
def c_tallystoneref52_Same_23 : EC := c23_25
theorem k_23 : ecF Try.prog 23 = some (26, c_tallystoneref52_Same_23, [.tm 4]) := by kernel_rfl

/-- tallystone/tallystonelaw52.from -/
@[simp] def c24_0l : List EO := [o 2 .mv [c (.snil)]]
def c24_0 : EC := .rg c24_0l false
@[simp] theorem c24_0e : Rg c24_0 c24_0l false := rgE _ _
@[simp] def c24_1l : List EO := [o 3 .mv [c (.snil)]]
def c24_1 : EC := .rg c24_1l false
@[simp] theorem c24_1e : Rg c24_1 c24_1l false := rgE _ _
@[simp] def c24_2l : List EO := [m 6 0,
 o 7 .lenL [t 6],
 o 8 .mv [i 0]]
def c24_2 : EC := .rg c24_2l false
@[simp] theorem c24_2e : Rg c24_2 c24_2l false := rgE _ _
@[simp] def c24_3l : List EO := [o 9 (.bin .lss) [t 8, t 7]]
def c24_3 : EC := .rg c24_3l false
@[simp] theorem c24_3e : Rg c24_3 c24_3l false := rgE _ _
def c24_4 : EC := .cd (t 9) .skip (.ex 0)
@[simp] theorem c24_4e : Cd c24_4 (t 9) .skip (.ex 0) := cdE _ _ _
@[simp] def c24_5l : List EO := [o 10 (.iaS 16) [t 6, t 8],
 o 11 (.load 16 true) [t 10],
 o 5 (.alloc [.t (.int .i64 0), .t (.int .i64 0), .t (.int .i64 0), .t (.int .i64 0), .t (.int .i64 0), .t (.int .i64 0), .t (.int .i64 0), .t (.int .i64 0), .t (.int .i64 0), .t (.int .i64 0), .t (.int .i64 0), .t (.int .i64 0), .t (.int .i64 0), .t (.int .i64 0), .t (.int .i64 0), .t (.int .i64 0)]) [],
 u (.store 16) [t 5, t 11]]
def c24_5 : EC := .rg c24_5l false
@[simp] theorem c24_5e : Rg c24_5 c24_5l false := rgE _ _
@[simp] def c24_6l : List EO := [m 12 3,
 o 13 (.load 16 true) [t 5],
 o 14 (.bsl 16) [t 13],
 o 15 (.app 47 16 128) [t 12, t 14],
 m 3 15]
def c24_6 : EC := .rg c24_6l false
@[simp] theorem c24_6e : Rg c24_6 c24_6l false := rgE _ _
def c24_7 : EC := .sq c24_5 c24_6
@[simp] theorem c24_7e : Sq c24_7 c24_5 c24_6 := sqE _ _
def c24_8 : EC := .bk 1 c24_7
@[simp] theorem c24_8e : Bk c24_8 1 c24_7 := bkE _ _
@[simp] def c24_9l : List EO := [o 16 (.bin .add) [t 8, i 1],
 m 8 16]
def c24_9 : EC := .rg c24_9l false
@[simp] theorem c24_9e : Rg c24_9 c24_9l false := rgE _ _
def c24_10 : EC := .sq c24_8 c24_9
@[simp] theorem c24_10e : Sq c24_10 c24_8 c24_9 := sqE _ _
def c24_11 : EC := .sq c24_4 c24_10
@[simp] theorem c24_11e : Sq c24_11 c24_4 c24_10 := sqE _ _
def c24_12 : EC := .sq c24_3 c24_11
@[simp] theorem c24_12e : Sq c24_12 c24_3 c24_11 := sqE _ _
def c24_13 : EC := .bk 0 (.lp c24_12)
@[simp] theorem c24_13e : Bk c24_13 0 (.lp c24_12) := bkE _ _
def c24_14 : EC := .sq c24_2 c24_13
@[simp] theorem c24_14e : Sq c24_14 c24_2 c24_13 := sqE _ _
@[simp] def c24_15l : List EO := [m 17 3,
 m 2 17]
def c24_15 : EC := .rg c24_15l false
@[simp] theorem c24_15e : Rg c24_15 c24_15l false := rgE _ _
def c24_16 : EC := .sq c24_15 .rt
@[simp] theorem c24_16e : Sq c24_16 c24_15 .rt := sqE _ _
def c24_17 : EC := .sq c24_14 c24_16
@[simp] theorem c24_17e : Sq c24_17 c24_14 c24_16 := sqE _ _
def c24_18 : EC := .sq c24_1 c24_17
@[simp] theorem c24_18e : Sq c24_18 c24_1 c24_17 := sqE _ _
def c24_19 : EC := .sq c24_0 c24_18
@[simp] theorem c24_19e : Sq c24_19 c24_0 c24_18 := sqE _ _
def c_tallystonelaw52_from_24 : EC := c24_19
theorem k_24 : ecF Try.prog 24 = some (18, c_tallystonelaw52_from_24, [.tm 2]) := by kernel_rfl

/-- tallystone/tallystonelaw52.from, with slices that grow in boxes -/
@[simp] def b24_0l : List EO := [o 2 .mv [c (.snil)]]
def b24_0 : EC := .rg b24_0l false
@[simp] theorem b24_0e : Rg b24_0 b24_0l false := rgE _ _
@[simp] def b24_1l : List EO := [o 3 .mv [c (.snil)]]
def b24_1 : EC := .rg b24_1l false
@[simp] theorem b24_1e : Rg b24_1 b24_1l false := rgE _ _
@[simp] def b24_2l : List EO := [m 6 0,
 o 7 .lenL [t 6],
 o 8 .mv [i 0]]
def b24_2 : EC := .rg b24_2l false
@[simp] theorem b24_2e : Rg b24_2 b24_2l false := rgE _ _
@[simp] def b24_3l : List EO := [o 9 (.bin .lss) [t 8, t 7]]
def b24_3 : EC := .rg b24_3l false
@[simp] theorem b24_3e : Rg b24_3 b24_3l false := rgE _ _
def b24_4 : EC := .cd (t 9) .skip (.ex 0)
@[simp] theorem b24_4e : Cd b24_4 (t 9) .skip (.ex 0) := cdE _ _ _
@[simp] def b24_5l : List EO := [o 10 (.iaS 16) [t 6, t 8],
 o 11 (.load 16 true) [t 10],
 o 5 (.alloc [.t (.int .i64 0), .t (.int .i64 0), .t (.int .i64 0), .t (.int .i64 0), .t (.int .i64 0), .t (.int .i64 0), .t (.int .i64 0), .t (.int .i64 0), .t (.int .i64 0), .t (.int .i64 0), .t (.int .i64 0), .t (.int .i64 0), .t (.int .i64 0), .t (.int .i64 0), .t (.int .i64 0), .t (.int .i64 0)]) [],
 u (.store 16) [t 5, t 11]]
def b24_5 : EC := .rg b24_5l false
@[simp] theorem b24_5e : Rg b24_5 b24_5l false := rgE _ _
@[simp] def b24_6l : List EO := [m 12 3,
 o 13 (.load 16 true) [t 5],
 o 14 (.bsl 16) [t 13],
 o 15 (.appB 47 16 128) [t 12, t 14],
 m 3 15]
def b24_6 : EC := .rg b24_6l false
@[simp] theorem b24_6e : Rg b24_6 b24_6l false := rgE _ _
def b24_7 : EC := .sq b24_5 b24_6
@[simp] theorem b24_7e : Sq b24_7 b24_5 b24_6 := sqE _ _
def b24_8 : EC := .bk 1 b24_7
@[simp] theorem b24_8e : Bk b24_8 1 b24_7 := bkE _ _
@[simp] def b24_9l : List EO := [o 16 (.bin .add) [t 8, i 1],
 m 8 16]
def b24_9 : EC := .rg b24_9l false
@[simp] theorem b24_9e : Rg b24_9 b24_9l false := rgE _ _
def b24_10 : EC := .sq b24_8 b24_9
@[simp] theorem b24_10e : Sq b24_10 b24_8 b24_9 := sqE _ _
def b24_11 : EC := .sq b24_4 b24_10
@[simp] theorem b24_11e : Sq b24_11 b24_4 b24_10 := sqE _ _
def b24_12 : EC := .sq b24_3 b24_11
@[simp] theorem b24_12e : Sq b24_12 b24_3 b24_11 := sqE _ _
def b24_13 : EC := .bk 0 (.lp b24_12)
@[simp] theorem b24_13e : Bk b24_13 0 (.lp b24_12) := bkE _ _
def b24_14 : EC := .sq b24_2 b24_13
@[simp] theorem b24_14e : Sq b24_14 b24_2 b24_13 := sqE _ _
@[simp] def b24_15l : List EO := [m 17 3,
 m 2 17]
def b24_15 : EC := .rg b24_15l false
@[simp] theorem b24_15e : Rg b24_15 b24_15l false := rgE _ _
def b24_16 : EC := .sq b24_15 .rt
@[simp] theorem b24_16e : Sq b24_16 b24_15 .rt := sqE _ _
def b24_17 : EC := .sq b24_14 b24_16
@[simp] theorem b24_17e : Sq b24_17 b24_14 b24_16 := sqE _ _
def b24_18 : EC := .sq b24_1 b24_17
@[simp] theorem b24_18e : Sq b24_18 b24_1 b24_17 := sqE _ _
def b24_19 : EC := .sq b24_0 b24_18
@[simp] theorem b24_19e : Sq b24_19 b24_0 b24_18 := sqE _ _
def b_tallystonelaw52_from_24 : EC := b24_19
theorem kb_24 : ecB Try.prog 24 = some (18, b_tallystonelaw52_from_24, [.tm 2]) := by kernel_rfl

/-- tallystone/tallystoneref36.Parts -/
@[simp] def c25_0l : List EO := [o 4 .mv [c (.snil)]]
def c25_0 : EC := .rg c25_0l false
@[simp] theorem c25_0e : Rg c25_0 c25_0l false := rgE _ _
@[simp] def c25_1l : List EO := [o 5 .mv [c (.snil)]]
def c25_1 : EC := .rg c25_1l false
@[simp] theorem c25_1e : Rg c25_1 c25_1l false := rgE _ _
@[simp] def c25_2l : List EO := [o 6 .mv [i 0]]
def c25_2 : EC := .rg c25_2l false
@[simp] theorem c25_2e : Rg c25_2 c25_2l false := rgE _ _
@[simp] def c25_3l : List EO := [m 8 6,
 m 9 0,
 o 10 .lenL [t 9],
 o 11 (.bin .lss) [t 8, t 10]]
def c25_3 : EC := .rg c25_3l false
@[simp] theorem c25_3e : Rg c25_3 c25_3l false := rgE _ _
def c25_4 : EC := .cd (t 11) .skip (.ex 0)
@[simp] theorem c25_4e : Cd c25_4 (t 11) .skip (.ex 0) := cdE _ _ _
def c25_5 : EC := .sq c25_3 c25_4
@[simp] theorem c25_5e : Sq c25_5 c25_3 c25_4 := sqE _ _
@[simp] def c25_6l : List EO := [m 14 5,
 m 15 0,
 m 16 6,
 o 17 (.iaS 7) [t 15, t 16],
 o 18 (.faddr 3) [t 17],
 o 19 (.load 1 false) [t 18],
 m 20 0,
 m 21 6,
 o 22 (.iaS 7) [t 20, t 21],
 o 23 (.faddr 6) [t 22],
 o 24 (.load 1 false) [t 23],
 o 25 (.build [.t (.int .i64 0), .t (.int .i64 0)] [(0, 1), (1, 1)]) [t 19, t 24],
 o 26 (.bsl 2) [t 25],
 o 27 (.app 76 2 16) [t 14, t 26],
 m 5 27]
def c25_6 : EC := .rg c25_6l true
@[simp] theorem c25_6e : Rg c25_6 c25_6l true := rgE _ _
def c25_7 : EC := .bk 1 c25_6
@[simp] theorem c25_7e : Bk c25_7 1 c25_6 := bkE _ _
@[simp] def c25_8l : List EO := [m 12 6,
 o 13 (.bin .add) [t 12, i 1],
 m 6 13]
def c25_8 : EC := .rg c25_8l false
@[simp] theorem c25_8e : Rg c25_8 c25_8l false := rgE _ _
def c25_9 : EC := .sq c25_7 c25_8
@[simp] theorem c25_9e : Sq c25_9 c25_7 c25_8 := sqE _ _
def c25_10 : EC := .sq c25_5 c25_9
@[simp] theorem c25_10e : Sq c25_10 c25_5 c25_9 := sqE _ _
def c25_11 : EC := .bk 0 (.lp c25_10)
@[simp] theorem c25_11e : Bk c25_11 0 (.lp c25_10) := bkE _ _
def c25_12 : EC := .sq c25_2 c25_11
@[simp] theorem c25_12e : Sq c25_12 c25_2 c25_11 := sqE _ _
@[simp] def c25_13l : List EO := [o 7 .mv [i 0]]
def c25_13 : EC := .rg c25_13l false
@[simp] theorem c25_13e : Rg c25_13 c25_13l false := rgE _ _
@[simp] def c25_14l : List EO := [m 28 7,
 m 29 1,
 o 30 .lenL [t 29],
 o 31 (.bin .lss) [t 28, t 30]]
def c25_14 : EC := .rg c25_14l false
@[simp] theorem c25_14e : Rg c25_14 c25_14l false := rgE _ _
def c25_15 : EC := .cd (t 31) .skip (.ex 2)
@[simp] theorem c25_15e : Cd c25_15 (t 31) .skip (.ex 2) := cdE _ _ _
def c25_16 : EC := .sq c25_14 c25_15
@[simp] theorem c25_16e : Sq c25_16 c25_14 c25_15 := sqE _ _
@[simp] def c25_17l : List EO := [m 34 5,
 m 35 1,
 m 36 7,
 o 37 (.iaS 5) [t 35, t 36],
 o 38 (.faddr 4) [t 37],
 o 39 (.load 1 false) [t 38],
 o 40 (.app 76 2 16) [t 34, t 39],
 m 5 40]
def c25_17 : EC := .rg c25_17l false
@[simp] theorem c25_17e : Rg c25_17 c25_17l false := rgE _ _
def c25_18 : EC := .bk 3 c25_17
@[simp] theorem c25_18e : Bk c25_18 3 c25_17 := bkE _ _
@[simp] def c25_19l : List EO := [m 32 7,
 o 33 (.bin .add) [t 32, i 1],
 m 7 33]
def c25_19 : EC := .rg c25_19l false
@[simp] theorem c25_19e : Rg c25_19 c25_19l false := rgE _ _
def c25_20 : EC := .sq c25_18 c25_19
@[simp] theorem c25_20e : Sq c25_20 c25_18 c25_19 := sqE _ _
def c25_21 : EC := .sq c25_16 c25_20
@[simp] theorem c25_21e : Sq c25_21 c25_16 c25_20 := sqE _ _
def c25_22 : EC := .bk 2 (.lp c25_21)
@[simp] theorem c25_22e : Bk c25_22 2 (.lp c25_21) := bkE _ _
def c25_23 : EC := .sq c25_13 c25_22
@[simp] theorem c25_23e : Sq c25_23 c25_13 c25_22 := sqE _ _
@[simp] def c25_24l : List EO := [m 41 5,
 m 4 41]
def c25_24 : EC := .rg c25_24l false
@[simp] theorem c25_24e : Rg c25_24 c25_24l false := rgE _ _
def c25_25 : EC := .sq c25_24 .rt
@[simp] theorem c25_25e : Sq c25_25 c25_24 .rt := sqE _ _
def c25_26 : EC := .sq c25_23 c25_25
@[simp] theorem c25_26e : Sq c25_26 c25_23 c25_25 := sqE _ _
def c25_27 : EC := .sq c25_12 c25_26
@[simp] theorem c25_27e : Sq c25_27 c25_12 c25_26 := sqE _ _
def c25_28 : EC := .sq c25_1 c25_27
@[simp] theorem c25_28e : Sq c25_28 c25_1 c25_27 := sqE _ _
def c25_29 : EC := .sq c25_0 c25_28
@[simp] theorem c25_29e : Sq c25_29 c25_0 c25_28 := sqE _ _
def c_tallystoneref36_Parts_25 : EC := c25_29
theorem k_25 : ecF Try.prog 25 = some (42, c_tallystoneref36_Parts_25, [.tm 4]) := by kernel_rfl

/-- tallystone/tallystoneref36.Parts, with slices that grow in boxes -/
@[simp] def b25_0l : List EO := [o 4 .mv [c (.snil)]]
def b25_0 : EC := .rg b25_0l false
@[simp] theorem b25_0e : Rg b25_0 b25_0l false := rgE _ _
@[simp] def b25_1l : List EO := [o 5 .mv [c (.snil)]]
def b25_1 : EC := .rg b25_1l false
@[simp] theorem b25_1e : Rg b25_1 b25_1l false := rgE _ _
@[simp] def b25_2l : List EO := [o 6 .mv [i 0]]
def b25_2 : EC := .rg b25_2l false
@[simp] theorem b25_2e : Rg b25_2 b25_2l false := rgE _ _
@[simp] def b25_3l : List EO := [m 8 6,
 m 9 0,
 o 10 .lenL [t 9],
 o 11 (.bin .lss) [t 8, t 10]]
def b25_3 : EC := .rg b25_3l false
@[simp] theorem b25_3e : Rg b25_3 b25_3l false := rgE _ _
def b25_4 : EC := .cd (t 11) .skip (.ex 0)
@[simp] theorem b25_4e : Cd b25_4 (t 11) .skip (.ex 0) := cdE _ _ _
def b25_5 : EC := .sq b25_3 b25_4
@[simp] theorem b25_5e : Sq b25_5 b25_3 b25_4 := sqE _ _
@[simp] def b25_6l : List EO := [m 14 5,
 m 15 0,
 m 16 6,
 o 17 (.iaS 7) [t 15, t 16],
 o 18 (.faddr 3) [t 17],
 o 19 (.load 1 false) [t 18],
 m 20 0,
 m 21 6,
 o 22 (.iaS 7) [t 20, t 21],
 o 23 (.faddr 6) [t 22],
 o 24 (.load 1 false) [t 23],
 o 25 (.build [.t (.int .i64 0), .t (.int .i64 0)] [(0, 1), (1, 1)]) [t 19, t 24],
 o 26 (.bsl 2) [t 25],
 o 27 (.appB 76 2 16) [t 14, t 26],
 m 5 27]
def b25_6 : EC := .rg b25_6l true
@[simp] theorem b25_6e : Rg b25_6 b25_6l true := rgE _ _
def b25_7 : EC := .bk 1 b25_6
@[simp] theorem b25_7e : Bk b25_7 1 b25_6 := bkE _ _
@[simp] def b25_8l : List EO := [m 12 6,
 o 13 (.bin .add) [t 12, i 1],
 m 6 13]
def b25_8 : EC := .rg b25_8l false
@[simp] theorem b25_8e : Rg b25_8 b25_8l false := rgE _ _
def b25_9 : EC := .sq b25_7 b25_8
@[simp] theorem b25_9e : Sq b25_9 b25_7 b25_8 := sqE _ _
def b25_10 : EC := .sq b25_5 b25_9
@[simp] theorem b25_10e : Sq b25_10 b25_5 b25_9 := sqE _ _
def b25_11 : EC := .bk 0 (.lp b25_10)
@[simp] theorem b25_11e : Bk b25_11 0 (.lp b25_10) := bkE _ _
def b25_12 : EC := .sq b25_2 b25_11
@[simp] theorem b25_12e : Sq b25_12 b25_2 b25_11 := sqE _ _
@[simp] def b25_13l : List EO := [o 7 .mv [i 0]]
def b25_13 : EC := .rg b25_13l false
@[simp] theorem b25_13e : Rg b25_13 b25_13l false := rgE _ _
@[simp] def b25_14l : List EO := [m 28 7,
 m 29 1,
 o 30 .lenL [t 29],
 o 31 (.bin .lss) [t 28, t 30]]
def b25_14 : EC := .rg b25_14l false
@[simp] theorem b25_14e : Rg b25_14 b25_14l false := rgE _ _
def b25_15 : EC := .cd (t 31) .skip (.ex 2)
@[simp] theorem b25_15e : Cd b25_15 (t 31) .skip (.ex 2) := cdE _ _ _
def b25_16 : EC := .sq b25_14 b25_15
@[simp] theorem b25_16e : Sq b25_16 b25_14 b25_15 := sqE _ _
@[simp] def b25_17l : List EO := [m 34 5,
 m 35 1,
 m 36 7,
 o 37 (.iaS 5) [t 35, t 36],
 o 38 (.faddr 4) [t 37],
 o 39 (.load 1 false) [t 38],
 o 40 (.appB 76 2 16) [t 34, t 39],
 m 5 40]
def b25_17 : EC := .rg b25_17l false
@[simp] theorem b25_17e : Rg b25_17 b25_17l false := rgE _ _
def b25_18 : EC := .bk 3 b25_17
@[simp] theorem b25_18e : Bk b25_18 3 b25_17 := bkE _ _
@[simp] def b25_19l : List EO := [m 32 7,
 o 33 (.bin .add) [t 32, i 1],
 m 7 33]
def b25_19 : EC := .rg b25_19l false
@[simp] theorem b25_19e : Rg b25_19 b25_19l false := rgE _ _
def b25_20 : EC := .sq b25_18 b25_19
@[simp] theorem b25_20e : Sq b25_20 b25_18 b25_19 := sqE _ _
def b25_21 : EC := .sq b25_16 b25_20
@[simp] theorem b25_21e : Sq b25_21 b25_16 b25_20 := sqE _ _
def b25_22 : EC := .bk 2 (.lp b25_21)
@[simp] theorem b25_22e : Bk b25_22 2 (.lp b25_21) := bkE _ _
def b25_23 : EC := .sq b25_13 b25_22
@[simp] theorem b25_23e : Sq b25_23 b25_13 b25_22 := sqE _ _
@[simp] def b25_24l : List EO := [m 41 5,
 m 4 41]
def b25_24 : EC := .rg b25_24l false
@[simp] theorem b25_24e : Rg b25_24 b25_24l false := rgE _ _
def b25_25 : EC := .sq b25_24 .rt
@[simp] theorem b25_25e : Sq b25_25 b25_24 .rt := sqE _ _
def b25_26 : EC := .sq b25_23 b25_25
@[simp] theorem b25_26e : Sq b25_26 b25_23 b25_25 := sqE _ _
def b25_27 : EC := .sq b25_12 b25_26
@[simp] theorem b25_27e : Sq b25_27 b25_12 b25_26 := sqE _ _
def b25_28 : EC := .sq b25_1 b25_27
@[simp] theorem b25_28e : Sq b25_28 b25_1 b25_27 := sqE _ _
def b25_29 : EC := .sq b25_0 b25_28
@[simp] theorem b25_29e : Sq b25_29 b25_0 b25_28 := sqE _ _
def b_tallystoneref36_Parts_25 : EC := b25_29
theorem kb_25 : ecB Try.prog 25 = some (42, b_tallystoneref36_Parts_25, [.tm 4]) := by kernel_rfl

/-- tallystone/tallystoneref10.Account -/
@[simp] def c26_0l : List EO := [o 2 .box [t 0],
 o 4 (.alloc [.t (.int .i64 0), .t (.int .i64 0), .t (.int .i64 0), .t (.int .i64 0)]) [],
 o 5 .mv [b false]]
def c26_0 : EC := .rg c26_0l false
@[simp] theorem c26_0e : Rg c26_0 c26_0l false := rgE _ _
@[simp] def c26_1l : List EO := [o 6 (.faddr 4) [t 2],
 o 7 (.load 1 false) [t 6],
 m 8 1,
 o 9 (.call 50) [t 7, t 8],
 o 10 (.ext 0) [t 9],
 o 11 (.ext 1) [t 9],
 u (.store 4) [t 4, t 10],
 m 5 11]
def c26_1 : EC := .rg c26_1l false
@[simp] theorem c26_1e : Rg c26_1 c26_1l false := rgE _ _
def c26_2 : EC := .sq c26_1 .rt
@[simp] theorem c26_2e : Sq c26_2 c26_1 .rt := sqE _ _
def c26_3 : EC := .sq c26_0 c26_2
@[simp] theorem c26_3e : Sq c26_3 c26_0 c26_2 := sqE _ _
def c_tallystoneref10_Account_26 : EC := c26_3
theorem k_26 : ecF Try.prog 26 = some (12, c_tallystoneref10_Account_26, [.ce 4 4 true, .tm 5]) := by kernel_rfl

/-- tallystone/tallystonelaw52.NoteOrder$1 -/
@[simp] def c27_0l : List EO := [o 1 .box [t 0],
 o 2 (.alloc [.t (.int .i64 0), .snil, .snil, .snil]) []]
def c27_0 : EC := .rg c27_0l false
@[simp] theorem c27_0e : Rg c27_0 c27_0l false := rgE _ _
@[simp] def c27_1l : List EO := [o 6 (.faddr 0) [t 1],
 o 7 (.load 1 false) [t 6],
 o 8 (.build [.t (.int .i64 0), .snil, .snil, .snil] [(0, 1)]) [t 7],
 o 3 (.alloc [.t (.int .i64 0), .snil, .snil, .snil]) [],
 u (.store 4) [t 3, t 8]]
def c27_1 : EC := .rg c27_1l false
@[simp] theorem c27_1e : Rg c27_1 c27_1l false := rgE _ _
@[simp] def c27_2l : List EO := [o 9 (.faddr 1) [t 1],
 o 10 (.load 1 false) [t 9],
 o 11 .lenL [t 10],
 o 12 .mv [i 0]]
def c27_2 : EC := .rg c27_2l false
@[simp] theorem c27_2e : Rg c27_2 c27_2l false := rgE _ _
@[simp] def c27_3l : List EO := [o 13 (.bin .lss) [t 12, t 11]]
def c27_3 : EC := .rg c27_3l false
@[simp] theorem c27_3e : Rg c27_3 c27_3l false := rgE _ _
def c27_4 : EC := .cd (t 13) .skip (.ex 0)
@[simp] theorem c27_4e : Cd c27_4 (t 13) .skip (.ex 0) := cdE _ _ _
@[simp] def c27_5l : List EO := [m 14 12,
 m 4 14]
def c27_5 : EC := .rg c27_5l false
@[simp] theorem c27_5e : Rg c27_5 c27_5l false := rgE _ _
@[simp] def c27_6l : List EO := [o 15 (.faddr 1) [t 3],
 o 16 (.load 1 false) [t 15],
 o 17 (.faddr 1) [t 1],
 o 18 (.load 1 false) [t 17],
 o 19 (.faddr 1) [t 1],
 o 20 (.load 1 false) [t 19],
 o 21 .lenL [t 20],
 o 22 (.bin .sub) [t 21, i 1],
 m 23 4,
 o 24 (.bin .sub) [t 22, t 23],
 o 25 (.iaS 7) [t 18, t 24],
 o 26 (.load 7 true) [t 25],
 o 27 (.bsl 7) [t 26],
 o 28 (.app 62 7 56) [t 16, t 27],
 o 29 (.faddr 1) [t 3],
 u (.store 1) [t 29, t 28]]
def c27_6 : EC := .rg c27_6l true
@[simp] theorem c27_6e : Rg c27_6 c27_6l true := rgE _ _
def c27_7 : EC := .sq c27_5 c27_6
@[simp] theorem c27_7e : Sq c27_7 c27_5 c27_6 := sqE _ _
def c27_8 : EC := .bk 1 c27_7
@[simp] theorem c27_8e : Bk c27_8 1 c27_7 := bkE _ _
@[simp] def c27_9l : List EO := [o 30 (.bin .add) [t 12, i 1],
 m 12 30]
def c27_9 : EC := .rg c27_9l false
@[simp] theorem c27_9e : Rg c27_9 c27_9l false := rgE _ _
def c27_10 : EC := .sq c27_8 c27_9
@[simp] theorem c27_10e : Sq c27_10 c27_8 c27_9 := sqE _ _
def c27_11 : EC := .sq c27_4 c27_10
@[simp] theorem c27_11e : Sq c27_11 c27_4 c27_10 := sqE _ _
def c27_12 : EC := .sq c27_3 c27_11
@[simp] theorem c27_12e : Sq c27_12 c27_3 c27_11 := sqE _ _
def c27_13 : EC := .bk 0 (.lp c27_12)
@[simp] theorem c27_13e : Bk c27_13 0 (.lp c27_12) := bkE _ _
def c27_14 : EC := .sq c27_2 c27_13
@[simp] theorem c27_14e : Sq c27_14 c27_2 c27_13 := sqE _ _
@[simp] def c27_15l : List EO := [o 31 (.faddr 2) [t 1],
 o 32 (.load 1 false) [t 31],
 o 33 .lenL [t 32],
 o 34 .mv [i 0]]
def c27_15 : EC := .rg c27_15l false
@[simp] theorem c27_15e : Rg c27_15 c27_15l false := rgE _ _
@[simp] def c27_16l : List EO := [o 35 (.bin .lss) [t 34, t 33]]
def c27_16 : EC := .rg c27_16l false
@[simp] theorem c27_16e : Rg c27_16 c27_16l false := rgE _ _
def c27_17 : EC := .cd (t 35) .skip (.ex 2)
@[simp] theorem c27_17e : Cd c27_17 (t 35) .skip (.ex 2) := cdE _ _ _
@[simp] def c27_18l : List EO := [m 36 34,
 m 5 36]
def c27_18 : EC := .rg c27_18l false
@[simp] theorem c27_18e : Rg c27_18 c27_18l false := rgE _ _
@[simp] def c27_19l : List EO := [o 37 (.faddr 2) [t 3],
 o 38 (.load 1 false) [t 37],
 o 39 (.faddr 2) [t 1],
 o 40 (.load 1 false) [t 39],
 o 41 (.faddr 2) [t 1],
 o 42 (.load 1 false) [t 41],
 o 43 .lenL [t 42],
 o 44 (.bin .sub) [t 43, i 1],
 m 45 5,
 o 46 (.bin .sub) [t 44, t 45],
 o 47 (.iaS 5) [t 40, t 46],
 o 48 (.load 5 true) [t 47],
 o 49 (.bsl 5) [t 48],
 o 50 (.app 55 5 56) [t 38, t 49],
 o 51 (.faddr 2) [t 3],
 u (.store 1) [t 51, t 50]]
def c27_19 : EC := .rg c27_19l true
@[simp] theorem c27_19e : Rg c27_19 c27_19l true := rgE _ _
def c27_20 : EC := .sq c27_18 c27_19
@[simp] theorem c27_20e : Sq c27_20 c27_18 c27_19 := sqE _ _
def c27_21 : EC := .bk 3 c27_20
@[simp] theorem c27_21e : Bk c27_21 3 c27_20 := bkE _ _
@[simp] def c27_22l : List EO := [o 52 (.bin .add) [t 34, i 1],
 m 34 52]
def c27_22 : EC := .rg c27_22l false
@[simp] theorem c27_22e : Rg c27_22 c27_22l false := rgE _ _
def c27_23 : EC := .sq c27_21 c27_22
@[simp] theorem c27_23e : Sq c27_23 c27_21 c27_22 := sqE _ _
def c27_24 : EC := .sq c27_17 c27_23
@[simp] theorem c27_24e : Sq c27_24 c27_17 c27_23 := sqE _ _
def c27_25 : EC := .sq c27_16 c27_24
@[simp] theorem c27_25e : Sq c27_25 c27_16 c27_24 := sqE _ _
def c27_26 : EC := .bk 2 (.lp c27_25)
@[simp] theorem c27_26e : Bk c27_26 2 (.lp c27_25) := bkE _ _
def c27_27 : EC := .sq c27_15 c27_26
@[simp] theorem c27_27e : Sq c27_27 c27_15 c27_26 := sqE _ _
@[simp] def c27_28l : List EO := [o 53 (.load 4 true) [t 3],
 u (.store 4) [t 2, t 53]]
def c27_28 : EC := .rg c27_28l false
@[simp] theorem c27_28e : Rg c27_28 c27_28l false := rgE _ _
def c27_29 : EC := .sq c27_28 .rt
@[simp] theorem c27_29e : Sq c27_29 c27_28 .rt := sqE _ _
def c27_30 : EC := .sq c27_27 c27_29
@[simp] theorem c27_30e : Sq c27_30 c27_27 c27_29 := sqE _ _
def c27_31 : EC := .sq c27_14 c27_30
@[simp] theorem c27_31e : Sq c27_31 c27_14 c27_30 := sqE _ _
def c27_32 : EC := .sq c27_1 c27_31
@[simp] theorem c27_32e : Sq c27_32 c27_1 c27_31 := sqE _ _
def c27_33 : EC := .sq c27_0 c27_32
@[simp] theorem c27_33e : Sq c27_33 c27_0 c27_32 := sqE _ _
def c_tallystonelaw52_NoteOrderS1_27 : EC := c27_33
theorem k_27 : ecF Try.prog 27 = some (54, c_tallystonelaw52_NoteOrderS1_27, [.ce 2 4 true]) := by kernel_rfl

/-- tallystone/tallystonelaw52.NoteOrder$1, with slices that grow in boxes -/
@[simp] def b27_0l : List EO := [o 1 .box [t 0],
 o 2 (.alloc [.t (.int .i64 0), .snil, .snil, .snil]) []]
def b27_0 : EC := .rg b27_0l false
@[simp] theorem b27_0e : Rg b27_0 b27_0l false := rgE _ _
@[simp] def b27_1l : List EO := [o 6 (.faddr 0) [t 1],
 o 7 (.load 1 false) [t 6],
 o 8 (.build [.t (.int .i64 0), .snil, .snil, .snil] [(0, 1)]) [t 7],
 o 3 (.alloc [.t (.int .i64 0), .snil, .snil, .snil]) [],
 u (.store 4) [t 3, t 8]]
def b27_1 : EC := .rg b27_1l false
@[simp] theorem b27_1e : Rg b27_1 b27_1l false := rgE _ _
@[simp] def b27_2l : List EO := [o 9 (.faddr 1) [t 1],
 o 10 (.load 1 false) [t 9],
 o 11 .lenL [t 10],
 o 12 .mv [i 0]]
def b27_2 : EC := .rg b27_2l false
@[simp] theorem b27_2e : Rg b27_2 b27_2l false := rgE _ _
@[simp] def b27_3l : List EO := [o 13 (.bin .lss) [t 12, t 11]]
def b27_3 : EC := .rg b27_3l false
@[simp] theorem b27_3e : Rg b27_3 b27_3l false := rgE _ _
def b27_4 : EC := .cd (t 13) .skip (.ex 0)
@[simp] theorem b27_4e : Cd b27_4 (t 13) .skip (.ex 0) := cdE _ _ _
@[simp] def b27_5l : List EO := [m 14 12,
 m 4 14]
def b27_5 : EC := .rg b27_5l false
@[simp] theorem b27_5e : Rg b27_5 b27_5l false := rgE _ _
@[simp] def b27_6l : List EO := [o 15 (.faddr 1) [t 3],
 o 16 (.load 1 false) [t 15],
 o 17 (.faddr 1) [t 1],
 o 18 (.load 1 false) [t 17],
 o 19 (.faddr 1) [t 1],
 o 20 (.load 1 false) [t 19],
 o 21 .lenL [t 20],
 o 22 (.bin .sub) [t 21, i 1],
 m 23 4,
 o 24 (.bin .sub) [t 22, t 23],
 o 25 (.iaS 7) [t 18, t 24],
 o 26 (.load 7 true) [t 25],
 o 27 (.bsl 7) [t 26],
 o 28 (.appB 62 7 56) [t 16, t 27],
 o 29 (.faddr 1) [t 3],
 u (.store 1) [t 29, t 28]]
def b27_6 : EC := .rg b27_6l true
@[simp] theorem b27_6e : Rg b27_6 b27_6l true := rgE _ _
def b27_7 : EC := .sq b27_5 b27_6
@[simp] theorem b27_7e : Sq b27_7 b27_5 b27_6 := sqE _ _
def b27_8 : EC := .bk 1 b27_7
@[simp] theorem b27_8e : Bk b27_8 1 b27_7 := bkE _ _
@[simp] def b27_9l : List EO := [o 30 (.bin .add) [t 12, i 1],
 m 12 30]
def b27_9 : EC := .rg b27_9l false
@[simp] theorem b27_9e : Rg b27_9 b27_9l false := rgE _ _
def b27_10 : EC := .sq b27_8 b27_9
@[simp] theorem b27_10e : Sq b27_10 b27_8 b27_9 := sqE _ _
def b27_11 : EC := .sq b27_4 b27_10
@[simp] theorem b27_11e : Sq b27_11 b27_4 b27_10 := sqE _ _
def b27_12 : EC := .sq b27_3 b27_11
@[simp] theorem b27_12e : Sq b27_12 b27_3 b27_11 := sqE _ _
def b27_13 : EC := .bk 0 (.lp b27_12)
@[simp] theorem b27_13e : Bk b27_13 0 (.lp b27_12) := bkE _ _
def b27_14 : EC := .sq b27_2 b27_13
@[simp] theorem b27_14e : Sq b27_14 b27_2 b27_13 := sqE _ _
@[simp] def b27_15l : List EO := [o 31 (.faddr 2) [t 1],
 o 32 (.load 1 false) [t 31],
 o 33 .lenL [t 32],
 o 34 .mv [i 0]]
def b27_15 : EC := .rg b27_15l false
@[simp] theorem b27_15e : Rg b27_15 b27_15l false := rgE _ _
@[simp] def b27_16l : List EO := [o 35 (.bin .lss) [t 34, t 33]]
def b27_16 : EC := .rg b27_16l false
@[simp] theorem b27_16e : Rg b27_16 b27_16l false := rgE _ _
def b27_17 : EC := .cd (t 35) .skip (.ex 2)
@[simp] theorem b27_17e : Cd b27_17 (t 35) .skip (.ex 2) := cdE _ _ _
@[simp] def b27_18l : List EO := [m 36 34,
 m 5 36]
def b27_18 : EC := .rg b27_18l false
@[simp] theorem b27_18e : Rg b27_18 b27_18l false := rgE _ _
@[simp] def b27_19l : List EO := [o 37 (.faddr 2) [t 3],
 o 38 (.load 1 false) [t 37],
 o 39 (.faddr 2) [t 1],
 o 40 (.load 1 false) [t 39],
 o 41 (.faddr 2) [t 1],
 o 42 (.load 1 false) [t 41],
 o 43 .lenL [t 42],
 o 44 (.bin .sub) [t 43, i 1],
 m 45 5,
 o 46 (.bin .sub) [t 44, t 45],
 o 47 (.iaS 5) [t 40, t 46],
 o 48 (.load 5 true) [t 47],
 o 49 (.bsl 5) [t 48],
 o 50 (.appB 55 5 56) [t 38, t 49],
 o 51 (.faddr 2) [t 3],
 u (.store 1) [t 51, t 50]]
def b27_19 : EC := .rg b27_19l true
@[simp] theorem b27_19e : Rg b27_19 b27_19l true := rgE _ _
def b27_20 : EC := .sq b27_18 b27_19
@[simp] theorem b27_20e : Sq b27_20 b27_18 b27_19 := sqE _ _
def b27_21 : EC := .bk 3 b27_20
@[simp] theorem b27_21e : Bk b27_21 3 b27_20 := bkE _ _
@[simp] def b27_22l : List EO := [o 52 (.bin .add) [t 34, i 1],
 m 34 52]
def b27_22 : EC := .rg b27_22l false
@[simp] theorem b27_22e : Rg b27_22 b27_22l false := rgE _ _
def b27_23 : EC := .sq b27_21 b27_22
@[simp] theorem b27_23e : Sq b27_23 b27_21 b27_22 := sqE _ _
def b27_24 : EC := .sq b27_17 b27_23
@[simp] theorem b27_24e : Sq b27_24 b27_17 b27_23 := sqE _ _
def b27_25 : EC := .sq b27_16 b27_24
@[simp] theorem b27_25e : Sq b27_25 b27_16 b27_24 := sqE _ _
def b27_26 : EC := .bk 2 (.lp b27_25)
@[simp] theorem b27_26e : Bk b27_26 2 (.lp b27_25) := bkE _ _
def b27_27 : EC := .sq b27_15 b27_26
@[simp] theorem b27_27e : Sq b27_27 b27_15 b27_26 := sqE _ _
@[simp] def b27_28l : List EO := [o 53 (.load 4 true) [t 3],
 u (.store 4) [t 2, t 53]]
def b27_28 : EC := .rg b27_28l false
@[simp] theorem b27_28e : Rg b27_28 b27_28l false := rgE _ _
def b27_29 : EC := .sq b27_28 .rt
@[simp] theorem b27_29e : Sq b27_29 b27_28 .rt := sqE _ _
def b27_30 : EC := .sq b27_27 b27_29
@[simp] theorem b27_30e : Sq b27_30 b27_27 b27_29 := sqE _ _
def b27_31 : EC := .sq b27_14 b27_30
@[simp] theorem b27_31e : Sq b27_31 b27_14 b27_30 := sqE _ _
def b27_32 : EC := .sq b27_1 b27_31
@[simp] theorem b27_32e : Sq b27_32 b27_1 b27_31 := sqE _ _
def b27_33 : EC := .sq b27_0 b27_32
@[simp] theorem b27_33e : Sq b27_33 b27_0 b27_32 := sqE _ _
def b_tallystonelaw52_NoteOrderS1_27 : EC := b27_33
theorem kb_27 : ecB Try.prog 27 = some (54, b_tallystonelaw52_NoteOrderS1_27, [.ce 2 4 true]) := by kernel_rfl

/-- tallystone/group.Sample -/
@[simp] def c28_0l : List EO := [o 0 (.alloc [.t (.str []), .t (.int .i64 0), .t (.int .i64 0), .t (.int .i64 0), .snil, .t (.int .i64 0), .t (.int .i64 0), .t (.int .i64 0), .t (.int .i64 0), .t (.int .i64 0), .t (.int .i64 0), .t (.int .i64 0), .t (.int .i64 0), .t (.int .i64 0), .t (.int .i64 0), .t (.int .i64 0), .t (.int .i64 0), .t (.int .i64 0), .t (.int .i64 0), .t (.int .i64 0), .snil]) []]
def c28_0 : EC := .rg c28_0l false
@[simp] theorem c28_0e : Rg c28_0 c28_0l false := rgE _ _
@[simp] def c28_1l : List EO := [o 1 (.build [.t (.int .i64 0), .t (.int .i64 0), .t (.int .i64 0)] [(0, 1), (1, 1), (2, 1)]) [i 2026, i 1, i 36],
 o 2 (.call 51) [],
 o 3 (.build [.t (.int .i64 0), .t (.int .i64 0), .t (.int .i64 0), .t (.int .i64 0), .t (.int .i64 0), .t (.int .i64 0), .t (.int .i64 0), .t (.int .i64 0), .t (.int .i64 0), .t (.int .i64 0), .t (.int .i64 0), .t (.int .i64 0), .t (.int .i64 0), .t (.int .i64 0), .t (.int .i64 0)] [(0, 1), (1, 1), (2, 1), (3, 1), (4, 1), (5, 1), (6, 1), (7, 1), (8, 1), (9, 1), (10, 1), (11, 1), (12, 1), (13, 1), (14, 1)]) [i 1500, i 1600, i 1700, i 1200, i 3100, i 3200, i 3300, i 3400, i 3500, i 4500, i 4600, i 4700, i 5500, i 5600, i 5700],
 o 4 (.call 52) [c (.t (.str [112, 97, 114, 101, 110, 116])), c (.t (.str [69, 85, 82])), b false],
 o 5 (.call 52) [c (.t (.str [110, 111, 114, 116, 104])), c (.t (.str [69, 85, 82])), b false],
 o 6 (.call 52) [c (.t (.str [119, 101, 115, 116])), c (.t (.str [85, 83, 68])), b false],
 o 7 (.call 52) [c (.t (.str [106, 111, 105, 110, 116])), c (.t (.str [85, 83, 68])), b true],
 o 8 (.bsl 5) [t 4, t 5, t 6, t 7],
 o 9 (.build [.t (.str []), .t (.int .i64 0), .t (.int .i64 0), .t (.int .i64 0), .snil, .t (.int .i64 0), .t (.int .i64 0), .t (.int .i64 0), .t (.int .i64 0), .t (.int .i64 0), .t (.int .i64 0), .t (.int .i64 0), .t (.int .i64 0), .t (.int .i64 0), .t (.int .i64 0), .t (.int .i64 0), .t (.int .i64 0), .t (.int .i64 0), .t (.int .i64 0), .t (.int .i64 0), .snil] [(0, 1), (1, 3), (4, 1), (5, 15), (20, 1)]) [c (.t (.str [69, 85, 82])), t 1, t 2, t 3, t 8],
 u (.store 21) [t 0, t 9]]
def c28_1 : EC := .rg c28_1l false
@[simp] theorem c28_1e : Rg c28_1 c28_1l false := rgE _ _
def c28_2 : EC := .sq c28_1 .rt
@[simp] theorem c28_2e : Sq c28_2 c28_1 .rt := sqE _ _
def c28_3 : EC := .sq c28_0 c28_2
@[simp] theorem c28_3e : Sq c28_3 c28_0 c28_2 := sqE _ _
def c_group_Sample_28 : EC := c28_3
theorem k_28 : ecF Try.prog 28 = some (10, c_group_Sample_28, [.ce 0 21 true]) := by kernel_rfl

/-- tallystone/tallystoneref10.Few -/
@[simp] def c29_0l : List EO := [o 1 .box [t 0],
 o 2 .mv [b false]]
def c29_0 : EC := .rg c29_0l false
@[simp] theorem c29_0e : Rg c29_0 c29_0l false := rgE _ _
@[simp] def c29_1l : List EO := [o 3 .mv [i 0]]
def c29_1 : EC := .rg c29_1l false
@[simp] theorem c29_1e : Rg c29_1 c29_1l false := rgE _ _
@[simp] def c29_2l : List EO := [m 5 3,
 o 6 (.faddr 20) [t 1],
 o 7 (.load 1 false) [t 6],
 o 8 .lenL [t 7],
 o 9 (.bin .lss) [t 5, t 8]]
def c29_2 : EC := .rg c29_2l false
@[simp] theorem c29_2e : Rg c29_2 c29_2l false := rgE _ _
def c29_3 : EC := .cd (t 9) .skip (.ex 0)
@[simp] theorem c29_3e : Cd c29_3 (t 9) .skip (.ex 0) := cdE _ _ _
def c29_4 : EC := .sq c29_2 c29_3
@[simp] theorem c29_4e : Sq c29_4 c29_2 c29_3 := sqE _ _
@[simp] def c29_5l : List EO := [o 12 (.faddr 20) [t 1],
 o 13 (.load 1 false) [t 12],
 m 14 3,
 o 15 (.iaS 5) [t 13, t 14],
 o 16 (.load 5 true) [t 15],
 o 4 (.alloc [.t (.str []), .t (.str []), .snil, .snil, .t (.bool false)]) [],
 u (.store 5) [t 4, t 16]]
def c29_5 : EC := .rg c29_5l false
@[simp] theorem c29_5e : Rg c29_5 c29_5l false := rgE _ _
@[simp] def c29_6l : List EO := [o 17 (.faddr 2) [t 4],
 o 18 (.load 1 false) [t 17],
 o 19 .lenL [t 18],
 o 20 (.bin .gtr) [t 19, i 40],
 m 21 20,
 n 22 21 (.faddr 3) [t 4],
 n 23 21 (.load 1 false) [t 22],
 n 24 21 .lenL [t 23],
 n 25 21 (.bin .gtr) [t 24, i 60],
 o 26 .pick [t 21, b true, t 25],
 m 27 26,
 n 28 27 (.faddr 0) [t 4],
 n 29 27 (.load 1 false) [t 28],
 n 30 27 .lenS [t 29],
 n 31 27 (.faddr 1) [t 4],
 n 32 27 (.load 1 false) [t 31],
 n 33 27 .lenS [t 32],
 n 34 27 (.bin .add) [t 30, t 33],
 n 35 27 (.bin .gtr) [t 34, i 60],
 o 36 .pick [t 27, b true, t 35]]
def c29_6 : EC := .rg c29_6l false
@[simp] theorem c29_6e : Rg c29_6 c29_6l false := rgE _ _
@[simp] def c29_7l : List EO := [o 2 .mv [b false]]
def c29_7 : EC := .rg c29_7l false
@[simp] theorem c29_7e : Rg c29_7 c29_7l false := rgE _ _
def c29_8 : EC := .sq c29_7 .rt
@[simp] theorem c29_8e : Sq c29_8 c29_7 .rt := sqE _ _
def c29_9 : EC := .cd (t 36) c29_8 .skip
@[simp] theorem c29_9e : Cd c29_9 (t 36) c29_8 .skip := cdE _ _ _
def c29_10 : EC := .sq c29_6 c29_9
@[simp] theorem c29_10e : Sq c29_10 c29_6 c29_9 := sqE _ _
def c29_11 : EC := .sq c29_5 c29_10
@[simp] theorem c29_11e : Sq c29_11 c29_5 c29_10 := sqE _ _
def c29_12 : EC := .bk 1 c29_11
@[simp] theorem c29_12e : Bk c29_12 1 c29_11 := bkE _ _
@[simp] def c29_13l : List EO := [m 10 3,
 o 11 (.bin .add) [t 10, i 1],
 m 3 11]
def c29_13 : EC := .rg c29_13l false
@[simp] theorem c29_13e : Rg c29_13 c29_13l false := rgE _ _
def c29_14 : EC := .sq c29_12 c29_13
@[simp] theorem c29_14e : Sq c29_14 c29_12 c29_13 := sqE _ _
def c29_15 : EC := .sq c29_4 c29_14
@[simp] theorem c29_15e : Sq c29_15 c29_4 c29_14 := sqE _ _
def c29_16 : EC := .bk 0 (.lp c29_15)
@[simp] theorem c29_16e : Bk c29_16 0 (.lp c29_15) := bkE _ _
def c29_17 : EC := .sq c29_1 c29_16
@[simp] theorem c29_17e : Sq c29_17 c29_1 c29_16 := sqE _ _
@[simp] def c29_18l : List EO := [o 37 (.faddr 4) [t 1],
 o 38 (.load 1 false) [t 37],
 o 39 .lenL [t 38],
 o 40 (.bin .leq) [t 39, i 60],
 m 41 40,
 y 42 41 (.faddr 20) [t 1],
 y 43 41 (.load 1 false) [t 42],
 y 44 41 .lenL [t 43],
 y 45 41 (.bin .leq) [t 44, i 14],
 o 46 .pick [t 41, t 45, b false],
 m 47 46,
 y 48 47 (.faddr 0) [t 1],
 y 49 47 (.load 1 false) [t 48],
 y 50 47 .lenS [t 49],
 y 51 47 (.bin .leq) [t 50, i 20],
 o 52 .pick [t 47, t 51, b false],
 m 2 52]
def c29_18 : EC := .rg c29_18l false
@[simp] theorem c29_18e : Rg c29_18 c29_18l false := rgE _ _
def c29_19 : EC := .sq c29_18 .rt
@[simp] theorem c29_19e : Sq c29_19 c29_18 .rt := sqE _ _
def c29_20 : EC := .sq c29_17 c29_19
@[simp] theorem c29_20e : Sq c29_20 c29_17 c29_19 := sqE _ _
def c29_21 : EC := .sq c29_0 c29_20
@[simp] theorem c29_21e : Sq c29_21 c29_0 c29_20 := sqE _ _
def c_tallystoneref10_Few_29 : EC := c29_21
theorem k_29 : ecF Try.prog 29 = some (53, c_tallystoneref10_Few_29, [.tm 2]) := by kernel_rfl
end Go.Proofs.Ythfnaaeddlnckaa
