/- The code of the functions of this seat, as the engine reads it; printed by program out of the translation, checked by the kernel. -/
import Derived.Test.YtkapabohpfkcoaaDoorEd
import Derived.Test.YtkapabohpfkcoaaDoorProg
set_option linter.unusedSimpArgs false
set_option linter.unusedVariables false
namespace Go.Proofs.YtkapabohpfkcoaaDoor
open Go.Proofs E E.Z
variable {P : Program} {nb nt : Nat} {Q : Ex → Fr → St → Prop} {a : Fr} {S : St}
/-- gosem.cut.init -/
@[simp] def c2_0l : List EO := [o 0 (.call 1) []]
def c2_0 : EC := .rg c2_0l false
@[simp] theorem c2_0e : Rg c2_0 c2_0l false := rgE _ _
def c_gosem_cut_init_2 : EC := c2_0
theorem k_2 : ecF Tryd.prog 2 = some (1, c_gosem_cut_init_2, []) := by kernel_rfl

/-- tallystone/tallystonelaw34.CompileOperates -/
@[simp] def c3_0l : List EO := [o 5 .box [t 2],
 o 6 .mv [b false]]
def c3_0 : EC := .rg c3_0l false
@[simp] theorem c3_0e : Rg c3_0 c3_0l false := rgE _ _
@[simp] def c3_1l : List EO := [o 11 (.call 12) [],
 o 12 (.un .not) [t 11]]
def c3_1 : EC := .rg c3_1l false
@[simp] theorem c3_1e : Rg c3_1 c3_1l false := rgE _ _
@[simp] def c3_2l : List EO := [o 6 .mv [b false]]
def c3_2 : EC := .rg c3_2l false
@[simp] theorem c3_2e : Rg c3_2 c3_2l false := rgE _ _
def c3_3 : EC := .sq c3_2 .rt
@[simp] theorem c3_3e : Sq c3_3 c3_2 .rt := sqE _ _
def c3_4 : EC := .cd (t 12) c3_3 .skip
@[simp] theorem c3_4e : Cd c3_4 (t 12) c3_3 .skip := cdE _ _ _
def c3_5 : EC := .sq c3_1 c3_4
@[simp] theorem c3_5e : Sq c3_5 c3_1 c3_4 := sqE _ _
@[simp] def c3_6l : List EO := [m 14 0,
 m 15 1,
 o 16 (.iaA 2 1) [t 5, i 0],
 o 17 (.load 1 false) [t 16],
 o 18 (.iaA 2 1) [t 5, i 1],
 o 19 (.load 1 false) [t 18],
 o 20 (.call 13) [t 14, t 15, t 17, t 19],
 m 13 20,
 o 21 (.ext 0) [t 13],
 o 22 (.ext 1) [t 13],
 m 7 21,
 m 8 22]
def c3_6 : EC := .rg c3_6l false
@[simp] theorem c3_6e : Rg c3_6 c3_6l false := rgE _ _
@[simp] def c3_7l : List EO := [m 24 0,
 m 25 1,
 o 26 (.iaA 2 1) [t 5, i 0],
 o 27 (.load 1 false) [t 26],
 o 28 (.iaA 2 1) [t 5, i 1],
 o 29 (.load 1 false) [t 28],
 o 30 (.call 14) [t 24, t 25, t 27, t 29],
 m 23 30,
 o 31 (.ext 0) [t 23],
 o 32 (.ext 1) [t 23],
 m 9 31,
 m 10 32]
def c3_7 : EC := .rg c3_7l false
@[simp] theorem c3_7e : Rg c3_7 c3_7l false := rgE _ _
@[simp] def c3_8l : List EO := [m 33 7,
 m 34 9,
 o 35 (.bin .eql) [t 33, t 34],
 m 36 35,
 y 37 36 .mv [t 8],
 y 38 36 .mv [t 10],
 y 39 36 (.eqv false false [0]) [t 37, t 38],
 o 40 .pick [t 36, t 39, b false],
 m 6 40]
def c3_8 : EC := .rg c3_8l false
@[simp] theorem c3_8e : Rg c3_8 c3_8l false := rgE _ _
def c3_9 : EC := .sq c3_8 .rt
@[simp] theorem c3_9e : Sq c3_9 c3_8 .rt := sqE _ _
def c3_10 : EC := .sq c3_7 c3_9
@[simp] theorem c3_10e : Sq c3_10 c3_7 c3_9 := sqE _ _
def c3_11 : EC := .sq c3_6 c3_10
@[simp] theorem c3_11e : Sq c3_11 c3_6 c3_10 := sqE _ _
def c3_12 : EC := .sq c3_5 c3_11
@[simp] theorem c3_12e : Sq c3_12 c3_5 c3_11 := sqE _ _
def c3_13 : EC := .sq c3_0 c3_12
@[simp] theorem c3_13e : Sq c3_13 c3_0 c3_12 := sqE _ _
def c_tallystonelaw34_CompileOperates_3 : EC := c3_13
theorem k_3 : ecF Tryd.prog 3 = some (41, c_tallystonelaw34_CompileOperates_3, [.tm 6]) := by kernel_rfl

/-- tallystone/tallystonelaw34.CompileOrders -/
@[simp] def c4_0l : List EO := [o 4 .mv [b false]]
def c4_0 : EC := .rg c4_0l false
@[simp] theorem c4_0e : Rg c4_0 c4_0l false := rgE _ _
@[simp] def c4_1l : List EO := [o 25 (.call 12) [],
 o 26 (.un .not) [t 25]]
def c4_1 : EC := .rg c4_1l false
@[simp] theorem c4_1e : Rg c4_1 c4_1l false := rgE _ _
@[simp] def c4_2l : List EO := [o 4 .mv [b false]]
def c4_2 : EC := .rg c4_2l false
@[simp] theorem c4_2e : Rg c4_2 c4_2l false := rgE _ _
def c4_3 : EC := .sq c4_2 .rt
@[simp] theorem c4_3e : Sq c4_3 c4_2 .rt := sqE _ _
def c4_4 : EC := .cd (t 26) c4_3 .skip
@[simp] theorem c4_4e : Cd c4_4 (t 26) c4_3 .skip := cdE _ _ _
def c4_5 : EC := .sq c4_1 c4_4
@[simp] theorem c4_5e : Sq c4_5 c4_1 c4_4 := sqE _ _
@[simp] def c4_6l : List EO := [m 27 0,
 o 28 (.call 15) [t 27],
 o 29 (.un .not) [t 28],
 m 30 29,
 n 31 30 .mv [t 1],
 n 32 30 (.call 15) [t 31],
 n 33 30 (.un .not) [t 32],
 o 34 .pick [t 30, b true, t 33]]
def c4_6 : EC := .rg c4_6l false
@[simp] theorem c4_6e : Rg c4_6 c4_6l false := rgE _ _
@[simp] def c4_7l : List EO := [o 4 .mv [b true]]
def c4_7 : EC := .rg c4_7l false
@[simp] theorem c4_7e : Rg c4_7 c4_7l false := rgE _ _
def c4_8 : EC := .sq c4_7 .rt
@[simp] theorem c4_8e : Sq c4_8 c4_7 .rt := sqE _ _
def c4_9 : EC := .cd (t 34) c4_8 .skip
@[simp] theorem c4_9e : Cd c4_9 (t 34) c4_8 .skip := cdE _ _ _
def c4_10 : EC := .sq c4_6 c4_9
@[simp] theorem c4_10e : Sq c4_10 c4_6 c4_9 := sqE _ _
@[simp] def c4_11l : List EO := [o 35 (.bsl 1) [i 10, i 12, i 13, i 14, i 15, i 16, i 19, i 20],
 m 5 35]
def c4_11 : EC := .rg c4_11l false
@[simp] theorem c4_11e : Rg c4_11 c4_11l false := rgE _ _
@[simp] def c4_12l : List EO := [o 6 .mv [i 0]]
def c4_12 : EC := .rg c4_12l false
@[simp] theorem c4_12e : Rg c4_12 c4_12l false := rgE _ _
@[simp] def c4_13l : List EO := [m 36 6,
 m 37 5,
 o 38 .lenL [t 37],
 o 39 (.bin .lss) [t 36, t 38]]
def c4_13 : EC := .rg c4_13l false
@[simp] theorem c4_13e : Rg c4_13 c4_13l false := rgE _ _
def c4_14 : EC := .cd (t 39) .skip (.ex 0)
@[simp] theorem c4_14e : Cd c4_14 (t 39) .skip (.ex 0) := cdE _ _ _
def c4_15 : EC := .sq c4_13 c4_14
@[simp] theorem c4_15e : Sq c4_15 c4_13 c4_14 := sqE _ _
@[simp] def c4_16l : List EO := [m 43 5,
 m 44 6,
 o 45 (.iaS 1) [t 43, t 44],
 o 46 (.load 1 false) [t 45],
 m 47 0,
 m 48 1,
 o 49 (.call 13) [t 46, i 0, t 47, t 48],
 m 42 49,
 o 50 (.ext 0) [t 42],
 o 51 (.ext 1) [t 42],
 m 7 50,
 m 8 51]
def c4_16 : EC := .rg c4_16l false
@[simp] theorem c4_16e : Rg c4_16 c4_16l false := rgE _ _
@[simp] def c4_17l : List EO := [m 53 5,
 m 54 6,
 o 55 (.iaS 1) [t 53, t 54],
 o 56 (.load 1 false) [t 55],
 m 57 1,
 m 58 0,
 o 59 (.call 13) [t 56, i 0, t 57, t 58],
 m 52 59,
 o 60 (.ext 0) [t 52],
 o 61 (.ext 1) [t 52],
 m 9 60,
 m 10 61]
def c4_17 : EC := .rg c4_17l false
@[simp] theorem c4_17e : Rg c4_17 c4_17l false := rgE _ _
@[simp] def c4_18l : List EO := [m 62 7,
 m 63 9,
 o 64 (.bin .neq) [t 62, t 63],
 m 65 64,
 n 66 65 .mv [t 8],
 n 67 65 .mv [t 10],
 n 68 65 (.eqv true false [0]) [t 66, t 67],
 o 69 .pick [t 65, b true, t 68]]
def c4_18 : EC := .rg c4_18l false
@[simp] theorem c4_18e : Rg c4_18 c4_18l false := rgE _ _
@[simp] def c4_19l : List EO := [o 4 .mv [b false]]
def c4_19 : EC := .rg c4_19l false
@[simp] theorem c4_19e : Rg c4_19 c4_19l false := rgE _ _
def c4_20 : EC := .sq c4_19 .rt
@[simp] theorem c4_20e : Sq c4_20 c4_19 .rt := sqE _ _
def c4_21 : EC := .cd (t 69) c4_20 .skip
@[simp] theorem c4_21e : Cd c4_21 (t 69) c4_20 .skip := cdE _ _ _
def c4_22 : EC := .sq c4_18 c4_21
@[simp] theorem c4_22e : Sq c4_22 c4_18 c4_21 := sqE _ _
def c4_23 : EC := .sq c4_17 c4_22
@[simp] theorem c4_23e : Sq c4_23 c4_17 c4_22 := sqE _ _
def c4_24 : EC := .sq c4_16 c4_23
@[simp] theorem c4_24e : Sq c4_24 c4_16 c4_23 := sqE _ _
def c4_25 : EC := .bk 1 c4_24
@[simp] theorem c4_25e : Bk c4_25 1 c4_24 := bkE _ _
@[simp] def c4_26l : List EO := [m 40 6,
 o 41 (.bin .add) [t 40, i 1],
 m 6 41]
def c4_26 : EC := .rg c4_26l false
@[simp] theorem c4_26e : Rg c4_26 c4_26l false := rgE _ _
def c4_27 : EC := .sq c4_25 c4_26
@[simp] theorem c4_27e : Sq c4_27 c4_25 c4_26 := sqE _ _
def c4_28 : EC := .sq c4_15 c4_27
@[simp] theorem c4_28e : Sq c4_28 c4_15 c4_27 := sqE _ _
def c4_29 : EC := .bk 0 (.lp c4_28)
@[simp] theorem c4_29e : Bk c4_29 0 (.lp c4_28) := bkE _ _
def c4_30 : EC := .sq c4_12 c4_29
@[simp] theorem c4_30e : Sq c4_30 c4_12 c4_29 := sqE _ _
@[simp] def c4_31l : List EO := [m 71 0,
 m 72 1,
 o 73 (.call 13) [i 17, i 0, t 71, t 72],
 m 70 73,
 o 74 (.ext 0) [t 70],
 o 75 (.ext 1) [t 70],
 m 11 74,
 m 12 75]
def c4_31 : EC := .rg c4_31l false
@[simp] theorem c4_31e : Rg c4_31 c4_31l false := rgE _ _
@[simp] def c4_32l : List EO := [m 77 0,
 m 78 1,
 o 79 (.call 13) [i 19, i 0, t 77, t 78],
 m 76 79,
 o 80 (.ext 0) [t 76],
 o 81 (.ext 1) [t 76],
 m 13 80,
 m 14 81]
def c4_32 : EC := .rg c4_32l false
@[simp] theorem c4_32e : Rg c4_32 c4_32l false := rgE _ _
@[simp] def c4_33l : List EO := [m 83 0,
 m 84 1,
 o 85 (.call 13) [i 22, i 0, t 83, t 84],
 m 82 85,
 o 86 (.ext 0) [t 82],
 o 87 (.ext 1) [t 82],
 m 15 86,
 m 16 87]
def c4_33 : EC := .rg c4_33l false
@[simp] theorem c4_33e : Rg c4_33 c4_33l false := rgE _ _
@[simp] def c4_34l : List EO := [m 89 0,
 m 90 1,
 o 91 (.call 13) [i 18, i 0, t 89, t 90],
 m 88 91,
 o 92 (.ext 0) [t 88],
 o 93 (.ext 1) [t 88],
 m 17 92,
 m 18 93]
def c4_34 : EC := .rg c4_34l false
@[simp] theorem c4_34e : Rg c4_34 c4_34l false := rgE _ _
@[simp] def c4_35l : List EO := [m 95 15,
 o 96 (.call 13) [i 8, i 0, t 95, i 0],
 m 94 96,
 o 97 (.ext 0) [t 94],
 o 98 (.ext 1) [t 94],
 m 19 97,
 m 20 98]
def c4_35 : EC := .rg c4_35l false
@[simp] theorem c4_35e : Rg c4_35 c4_35l false := rgE _ _
@[simp] def c4_36l : List EO := [m 100 0,
 m 101 1,
 o 102 (.call 13) [i 13, i 0, t 100, t 101],
 m 99 102,
 o 103 (.ext 0) [t 99],
 o 104 (.ext 1) [t 99],
 m 21 103,
 m 22 104]
def c4_36 : EC := .rg c4_36l false
@[simp] theorem c4_36e : Rg c4_36 c4_36l false := rgE _ _
@[simp] def c4_37l : List EO := [m 106 0,
 m 107 1,
 o 108 (.call 13) [i 14, i 0, t 106, t 107],
 m 105 108,
 o 109 (.ext 0) [t 105],
 o 110 (.ext 1) [t 105],
 m 23 109,
 m 24 110]
def c4_37 : EC := .rg c4_37l false
@[simp] theorem c4_37e : Rg c4_37 c4_37l false := rgE _ _
@[simp] def c4_38l : List EO := [m 111 11,
 m 112 13,
 o 113 (.bin .add) [t 111, t 112],
 m 114 15,
 o 115 (.bin .add) [t 113, t 114],
 o 116 (.bin .eql) [t 115, i 1],
 m 117 116,
 y 118 117 .mv [t 17],
 y 119 117 .mv [t 19],
 y 120 117 (.bin .eql) [t 118, t 119],
 o 121 .pick [t 117, t 120, b false],
 m 122 121,
 y 123 122 .mv [t 21],
 y 124 122 .mv [t 23],
 y 125 122 (.bin .add) [t 123, t 124],
 y 126 122 .mv [t 0],
 y 127 122 .mv [t 1],
 y 128 122 (.bin .add) [t 126, t 127],
 y 129 122 (.bin .eql) [t 125, t 128],
 o 130 .pick [t 122, t 129, b false],
 m 131 130,
 y 132 131 .mv [t 21],
 y 133 131 .mv [t 23],
 y 134 131 (.bin .leq) [t 132, t 133],
 o 135 .pick [t 131, t 134, b false],
 m 4 135]
def c4_38 : EC := .rg c4_38l false
@[simp] theorem c4_38e : Rg c4_38 c4_38l false := rgE _ _
def c4_39 : EC := .sq c4_38 .rt
@[simp] theorem c4_39e : Sq c4_39 c4_38 .rt := sqE _ _
def c4_40 : EC := .sq c4_37 c4_39
@[simp] theorem c4_40e : Sq c4_40 c4_37 c4_39 := sqE _ _
def c4_41 : EC := .sq c4_36 c4_40
@[simp] theorem c4_41e : Sq c4_41 c4_36 c4_40 := sqE _ _
def c4_42 : EC := .sq c4_35 c4_41
@[simp] theorem c4_42e : Sq c4_42 c4_35 c4_41 := sqE _ _
def c4_43 : EC := .sq c4_34 c4_42
@[simp] theorem c4_43e : Sq c4_43 c4_34 c4_42 := sqE _ _
def c4_44 : EC := .sq c4_33 c4_43
@[simp] theorem c4_44e : Sq c4_44 c4_33 c4_43 := sqE _ _
def c4_45 : EC := .sq c4_32 c4_44
@[simp] theorem c4_45e : Sq c4_45 c4_32 c4_44 := sqE _ _
def c4_46 : EC := .sq c4_31 c4_45
@[simp] theorem c4_46e : Sq c4_46 c4_31 c4_45 := sqE _ _
def c4_47 : EC := .sq c4_30 c4_46
@[simp] theorem c4_47e : Sq c4_47 c4_30 c4_46 := sqE _ _
def c4_48 : EC := .sq c4_11 c4_47
@[simp] theorem c4_48e : Sq c4_48 c4_11 c4_47 := sqE _ _
def c4_49 : EC := .sq c4_10 c4_48
@[simp] theorem c4_49e : Sq c4_49 c4_10 c4_48 := sqE _ _
def c4_50 : EC := .sq c4_5 c4_49
@[simp] theorem c4_50e : Sq c4_50 c4_5 c4_49 := sqE _ _
def c4_51 : EC := .sq c4_0 c4_50
@[simp] theorem c4_51e : Sq c4_51 c4_0 c4_50 := sqE _ _
def c_tallystonelaw34_CompileOrders_4 : EC := c4_51
theorem k_4 : ecF Tryd.prog 4 = some (136, c_tallystonelaw34_CompileOrders_4, [.tm 4]) := by kernel_rfl

/-- tallystone/tallystonelaw33.CheckTypes -/
@[simp] def c5_0l : List EO := [o 3 .box [t 0],
 o 6 .mv [b false]]
def c5_0 : EC := .rg c5_0l false
@[simp] theorem c5_0e : Rg c5_0 c5_0l false := rgE _ _
@[simp] def c5_1l : List EO := [o 15 (.call 16) [],
 o 16 (.un .not) [t 15]]
def c5_1 : EC := .rg c5_1l false
@[simp] theorem c5_1e : Rg c5_1 c5_1l false := rgE _ _
@[simp] def c5_2l : List EO := [o 6 .mv [b false]]
def c5_2 : EC := .rg c5_2l false
@[simp] theorem c5_2e : Rg c5_2 c5_2l false := rgE _ _
def c5_3 : EC := .sq c5_2 .rt
@[simp] theorem c5_3e : Sq c5_3 c5_2 .rt := sqE _ _
def c5_4 : EC := .cd (t 16) c5_3 .skip
@[simp] theorem c5_4e : Cd c5_4 (t 16) c5_3 .skip := cdE _ _ _
def c5_5 : EC := .sq c5_1 c5_4
@[simp] theorem c5_5e : Sq c5_5 c5_1 c5_4 := sqE _ _
@[simp] def c5_6l : List EO := [o 17 (.load 6 true) [t 3],
 o 18 (.build [.t (.int .i64 0), .t (.int .i64 0), .t (.str []), .t (.int .i64 0), .t (.int .i64 0), .t (.int .i64 0), .t (.int .i64 0), .t (.str []), .snil] [(3, 6)]) [t 17],
 o 19 (.bsl 9) [t 18],
 o 20 (.build [.t (.str []), .t (.bool false), .snil, .t (.int .i64 0)] [(2, 1)]) [t 19],
 o 21 (.bsl 4) [t 20],
 o 22 (.call 17) [t 21],
 o 23 (.un .not) [t 22],
 m 24 23,
 n 25 24 .mv [t 1],
 n 26 24 .lenL [t 25],
 n 27 24 (.bin .gtr) [t 26, i 20],
 o 28 .pick [t 24, b true, t 27]]
def c5_6 : EC := .rg c5_6l false
@[simp] theorem c5_6e : Rg c5_6 c5_6l false := rgE _ _
@[simp] def c5_7l : List EO := [o 6 .mv [b true]]
def c5_7 : EC := .rg c5_7l false
@[simp] theorem c5_7e : Rg c5_7 c5_7l false := rgE _ _
def c5_8 : EC := .sq c5_7 .rt
@[simp] theorem c5_8e : Sq c5_8 c5_7 .rt := sqE _ _
def c5_9 : EC := .cd (t 28) c5_8 .skip
@[simp] theorem c5_9e : Cd c5_9 (t 28) c5_8 .skip := cdE _ _ _
def c5_10 : EC := .sq c5_6 c5_9
@[simp] theorem c5_10e : Sq c5_10 c5_6 c5_9 := sqE _ _
@[simp] def c5_11l : List EO := [o 7 .mv [c (.snil)]]
def c5_11 : EC := .rg c5_11l false
@[simp] theorem c5_11e : Rg c5_11 c5_11l false := rgE _ _
@[simp] def c5_12l : List EO := [m 29 1,
 o 30 .lenL [t 29],
 o 31 (.bin .sub) [t 30, i 1],
 m 8 31]
def c5_12 : EC := .rg c5_12l false
@[simp] theorem c5_12e : Rg c5_12 c5_12l false := rgE _ _
@[simp] def c5_13l : List EO := [m 32 8,
 o 33 (.bin .geq) [t 32, i 0]]
def c5_13 : EC := .rg c5_13l false
@[simp] theorem c5_13e : Rg c5_13 c5_13l false := rgE _ _
def c5_14 : EC := .cd (t 33) .skip (.ex 0)
@[simp] theorem c5_14e : Cd c5_14 (t 33) .skip (.ex 0) := cdE _ _ _
def c5_15 : EC := .sq c5_13 c5_14
@[simp] theorem c5_15e : Sq c5_15 c5_13 c5_14 := sqE _ _
@[simp] def c5_16l : List EO := [m 36 1,
 m 37 8,
 o 38 (.iaS 1) [t 36, t 37],
 o 39 (.load 1 false) [t 38],
 o 40 .lenS [t 39],
 o 41 (.bin .gtr) [t 40, i 100]]
def c5_16 : EC := .rg c5_16l false
@[simp] theorem c5_16e : Rg c5_16 c5_16l false := rgE _ _
@[simp] def c5_17l : List EO := [o 6 .mv [b true]]
def c5_17 : EC := .rg c5_17l false
@[simp] theorem c5_17e : Rg c5_17 c5_17l false := rgE _ _
def c5_18 : EC := .sq c5_17 .rt
@[simp] theorem c5_18e : Sq c5_18 c5_17 .rt := sqE _ _
def c5_19 : EC := .cd (t 41) c5_18 .skip
@[simp] theorem c5_19e : Cd c5_19 (t 41) c5_18 .skip := cdE _ _ _
def c5_20 : EC := .sq c5_16 c5_19
@[simp] theorem c5_20e : Sq c5_20 c5_16 c5_19 := sqE _ _
@[simp] def c5_21l : List EO := [m 42 7,
 m 43 1,
 m 44 8,
 o 45 (.iaS 1) [t 43, t 44],
 o 46 (.load 1 false) [t 45],
 o 47 (.bsl 1) [t 46],
 o 48 (.app 9 1 16) [t 42, t 47],
 m 7 48]
def c5_21 : EC := .rg c5_21l false
@[simp] theorem c5_21e : Rg c5_21 c5_21l false := rgE _ _
def c5_22 : EC := .sq c5_20 c5_21
@[simp] theorem c5_22e : Sq c5_22 c5_20 c5_21 := sqE _ _
def c5_23 : EC := .bk 1 c5_22
@[simp] theorem c5_23e : Bk c5_23 1 c5_22 := bkE _ _
@[simp] def c5_24l : List EO := [m 34 8,
 o 35 (.bin .sub) [t 34, i 1],
 m 8 35]
def c5_24 : EC := .rg c5_24l false
@[simp] theorem c5_24e : Rg c5_24 c5_24l false := rgE _ _
def c5_25 : EC := .sq c5_23 c5_24
@[simp] theorem c5_25e : Sq c5_25 c5_23 c5_24 := sqE _ _
def c5_26 : EC := .sq c5_15 c5_25
@[simp] theorem c5_26e : Sq c5_26 c5_15 c5_25 := sqE _ _
def c5_27 : EC := .bk 0 (.lp c5_26)
@[simp] theorem c5_27e : Bk c5_27 0 (.lp c5_26) := bkE _ _
def c5_28 : EC := .sq c5_12 c5_27
@[simp] theorem c5_28e : Sq c5_28 c5_12 c5_27 := sqE _ _
@[simp] def c5_29l : List EO := [o 50 (.load 6 true) [t 3],
 o 51 (.call 19) [t 50],
 m 52 1,
 m 53 2,
 o 54 (.call 18) [t 51, t 52, t 53],
 m 49 54,
 o 55 (.ext 0) [t 49],
 o 56 (.ext 1) [t 49],
 m 9 55,
 m 10 56]
def c5_29 : EC := .rg c5_29l false
@[simp] theorem c5_29e : Rg c5_29 c5_29l false := rgE _ _
@[simp] def c5_30l : List EO := [o 58 (.load 6 true) [t 3],
 m 59 1,
 m 60 2,
 o 61 (.call 20) [t 58, t 59, t 60],
 m 57 61,
 o 62 (.ext 0) [t 57],
 o 63 (.ext 1) [t 57],
 m 11 62,
 m 12 63]
def c5_30 : EC := .rg c5_30l false
@[simp] theorem c5_30e : Rg c5_30 c5_30l false := rgE _ _
@[simp] def c5_31l : List EO := [o 65 (.load 6 true) [t 3],
 o 66 (.call 19) [t 65],
 m 67 7,
 m 68 2,
 o 69 (.call 18) [t 66, t 67, t 68],
 m 64 69,
 o 70 (.ext 0) [t 64],
 o 71 (.ext 1) [t 64],
 m 13 70,
 m 14 71]
def c5_31 : EC := .rg c5_31l false
@[simp] theorem c5_31e : Rg c5_31 c5_31l false := rgE _ _
@[simp] def c5_32l : List EO := [m 72 9,
 m 73 11,
 o 74 (.bin .eql) [t 72, t 73],
 m 75 74,
 y 76 75 .mv [t 10],
 y 77 75 .mv [t 12],
 y 78 75 (.bin .eql) [t 76, t 77],
 o 79 .pick [t 75, t 78, b false],
 m 80 79,
 y 81 80 .mv [t 9],
 y 82 80 .mv [t 13],
 y 83 80 (.bin .eql) [t 81, t 82],
 o 84 .pick [t 80, t 83, b false],
 m 85 84,
 y 86 85 .mv [t 10],
 y 87 85 .mv [t 14],
 y 88 85 (.bin .eql) [t 86, t 87],
 o 89 .pick [t 85, t 88, b false],
 m 6 89]
def c5_32 : EC := .rg c5_32l false
@[simp] theorem c5_32e : Rg c5_32 c5_32l false := rgE _ _
def c5_33 : EC := .sq c5_32 .rt
@[simp] theorem c5_33e : Sq c5_33 c5_32 .rt := sqE _ _
def c5_34 : EC := .sq c5_31 c5_33
@[simp] theorem c5_34e : Sq c5_34 c5_31 c5_33 := sqE _ _
def c5_35 : EC := .sq c5_30 c5_34
@[simp] theorem c5_35e : Sq c5_35 c5_30 c5_34 := sqE _ _
def c5_36 : EC := .sq c5_29 c5_35
@[simp] theorem c5_36e : Sq c5_36 c5_29 c5_35 := sqE _ _
def c5_37 : EC := .sq c5_28 c5_36
@[simp] theorem c5_37e : Sq c5_37 c5_28 c5_36 := sqE _ _
def c5_38 : EC := .sq c5_11 c5_37
@[simp] theorem c5_38e : Sq c5_38 c5_11 c5_37 := sqE _ _
def c5_39 : EC := .sq c5_10 c5_38
@[simp] theorem c5_39e : Sq c5_39 c5_10 c5_38 := sqE _ _
def c5_40 : EC := .sq c5_5 c5_39
@[simp] theorem c5_40e : Sq c5_40 c5_5 c5_39 := sqE _ _
def c5_41 : EC := .sq c5_0 c5_40
@[simp] theorem c5_41e : Sq c5_41 c5_0 c5_40 := sqE _ _
def c_tallystonelaw33_CheckTypes_5 : EC := c5_41
theorem k_5 : ecF Tryd.prog 5 = some (90, c_tallystonelaw33_CheckTypes_5, [.tm 6]) := by kernel_rfl

/-- tallystone/tallystonelaw33.CheckTypes, with slices that grow in boxes -/
@[simp] def b5_0l : List EO := [o 3 .box [t 0],
 o 6 .mv [b false]]
def b5_0 : EC := .rg b5_0l false
@[simp] theorem b5_0e : Rg b5_0 b5_0l false := rgE _ _
@[simp] def b5_1l : List EO := [o 15 (.call 16) [],
 o 16 (.un .not) [t 15]]
def b5_1 : EC := .rg b5_1l false
@[simp] theorem b5_1e : Rg b5_1 b5_1l false := rgE _ _
@[simp] def b5_2l : List EO := [o 6 .mv [b false]]
def b5_2 : EC := .rg b5_2l false
@[simp] theorem b5_2e : Rg b5_2 b5_2l false := rgE _ _
def b5_3 : EC := .sq b5_2 .rt
@[simp] theorem b5_3e : Sq b5_3 b5_2 .rt := sqE _ _
def b5_4 : EC := .cd (t 16) b5_3 .skip
@[simp] theorem b5_4e : Cd b5_4 (t 16) b5_3 .skip := cdE _ _ _
def b5_5 : EC := .sq b5_1 b5_4
@[simp] theorem b5_5e : Sq b5_5 b5_1 b5_4 := sqE _ _
@[simp] def b5_6l : List EO := [o 17 (.load 6 true) [t 3],
 o 18 (.build [.t (.int .i64 0), .t (.int .i64 0), .t (.str []), .t (.int .i64 0), .t (.int .i64 0), .t (.int .i64 0), .t (.int .i64 0), .t (.str []), .snil] [(3, 6)]) [t 17],
 o 19 (.bsl 9) [t 18],
 o 20 (.build [.t (.str []), .t (.bool false), .snil, .t (.int .i64 0)] [(2, 1)]) [t 19],
 o 21 (.bsl 4) [t 20],
 o 22 (.call 17) [t 21],
 o 23 (.un .not) [t 22],
 m 24 23,
 n 25 24 .mv [t 1],
 n 26 24 .lenL [t 25],
 n 27 24 (.bin .gtr) [t 26, i 20],
 o 28 .pick [t 24, b true, t 27]]
def b5_6 : EC := .rg b5_6l false
@[simp] theorem b5_6e : Rg b5_6 b5_6l false := rgE _ _
@[simp] def b5_7l : List EO := [o 6 .mv [b true]]
def b5_7 : EC := .rg b5_7l false
@[simp] theorem b5_7e : Rg b5_7 b5_7l false := rgE _ _
def b5_8 : EC := .sq b5_7 .rt
@[simp] theorem b5_8e : Sq b5_8 b5_7 .rt := sqE _ _
def b5_9 : EC := .cd (t 28) b5_8 .skip
@[simp] theorem b5_9e : Cd b5_9 (t 28) b5_8 .skip := cdE _ _ _
def b5_10 : EC := .sq b5_6 b5_9
@[simp] theorem b5_10e : Sq b5_10 b5_6 b5_9 := sqE _ _
@[simp] def b5_11l : List EO := [o 7 .mv [c (.snil)]]
def b5_11 : EC := .rg b5_11l false
@[simp] theorem b5_11e : Rg b5_11 b5_11l false := rgE _ _
@[simp] def b5_12l : List EO := [m 29 1,
 o 30 .lenL [t 29],
 o 31 (.bin .sub) [t 30, i 1],
 m 8 31]
def b5_12 : EC := .rg b5_12l false
@[simp] theorem b5_12e : Rg b5_12 b5_12l false := rgE _ _
@[simp] def b5_13l : List EO := [m 32 8,
 o 33 (.bin .geq) [t 32, i 0]]
def b5_13 : EC := .rg b5_13l false
@[simp] theorem b5_13e : Rg b5_13 b5_13l false := rgE _ _
def b5_14 : EC := .cd (t 33) .skip (.ex 0)
@[simp] theorem b5_14e : Cd b5_14 (t 33) .skip (.ex 0) := cdE _ _ _
def b5_15 : EC := .sq b5_13 b5_14
@[simp] theorem b5_15e : Sq b5_15 b5_13 b5_14 := sqE _ _
@[simp] def b5_16l : List EO := [m 36 1,
 m 37 8,
 o 38 (.iaS 1) [t 36, t 37],
 o 39 (.load 1 false) [t 38],
 o 40 .lenS [t 39],
 o 41 (.bin .gtr) [t 40, i 100]]
def b5_16 : EC := .rg b5_16l false
@[simp] theorem b5_16e : Rg b5_16 b5_16l false := rgE _ _
@[simp] def b5_17l : List EO := [o 6 .mv [b true]]
def b5_17 : EC := .rg b5_17l false
@[simp] theorem b5_17e : Rg b5_17 b5_17l false := rgE _ _
def b5_18 : EC := .sq b5_17 .rt
@[simp] theorem b5_18e : Sq b5_18 b5_17 .rt := sqE _ _
def b5_19 : EC := .cd (t 41) b5_18 .skip
@[simp] theorem b5_19e : Cd b5_19 (t 41) b5_18 .skip := cdE _ _ _
def b5_20 : EC := .sq b5_16 b5_19
@[simp] theorem b5_20e : Sq b5_20 b5_16 b5_19 := sqE _ _
@[simp] def b5_21l : List EO := [m 42 7,
 m 43 1,
 m 44 8,
 o 45 (.iaS 1) [t 43, t 44],
 o 46 (.load 1 false) [t 45],
 o 47 (.bsl 1) [t 46],
 o 48 (.appB 9 1 16) [t 42, t 47],
 m 7 48]
def b5_21 : EC := .rg b5_21l false
@[simp] theorem b5_21e : Rg b5_21 b5_21l false := rgE _ _
def b5_22 : EC := .sq b5_20 b5_21
@[simp] theorem b5_22e : Sq b5_22 b5_20 b5_21 := sqE _ _
def b5_23 : EC := .bk 1 b5_22
@[simp] theorem b5_23e : Bk b5_23 1 b5_22 := bkE _ _
@[simp] def b5_24l : List EO := [m 34 8,
 o 35 (.bin .sub) [t 34, i 1],
 m 8 35]
def b5_24 : EC := .rg b5_24l false
@[simp] theorem b5_24e : Rg b5_24 b5_24l false := rgE _ _
def b5_25 : EC := .sq b5_23 b5_24
@[simp] theorem b5_25e : Sq b5_25 b5_23 b5_24 := sqE _ _
def b5_26 : EC := .sq b5_15 b5_25
@[simp] theorem b5_26e : Sq b5_26 b5_15 b5_25 := sqE _ _
def b5_27 : EC := .bk 0 (.lp b5_26)
@[simp] theorem b5_27e : Bk b5_27 0 (.lp b5_26) := bkE _ _
def b5_28 : EC := .sq b5_12 b5_27
@[simp] theorem b5_28e : Sq b5_28 b5_12 b5_27 := sqE _ _
@[simp] def b5_29l : List EO := [o 50 (.load 6 true) [t 3],
 o 51 (.call 19) [t 50],
 m 52 1,
 m 53 2,
 o 54 (.call 18) [t 51, t 52, t 53],
 m 49 54,
 o 55 (.ext 0) [t 49],
 o 56 (.ext 1) [t 49],
 m 9 55,
 m 10 56]
def b5_29 : EC := .rg b5_29l false
@[simp] theorem b5_29e : Rg b5_29 b5_29l false := rgE _ _
@[simp] def b5_30l : List EO := [o 58 (.load 6 true) [t 3],
 m 59 1,
 m 60 2,
 o 61 (.call 20) [t 58, t 59, t 60],
 m 57 61,
 o 62 (.ext 0) [t 57],
 o 63 (.ext 1) [t 57],
 m 11 62,
 m 12 63]
def b5_30 : EC := .rg b5_30l false
@[simp] theorem b5_30e : Rg b5_30 b5_30l false := rgE _ _
@[simp] def b5_31l : List EO := [o 65 (.load 6 true) [t 3],
 o 66 (.call 19) [t 65],
 m 67 7,
 m 68 2,
 o 69 (.call 18) [t 66, t 67, t 68],
 m 64 69,
 o 70 (.ext 0) [t 64],
 o 71 (.ext 1) [t 64],
 m 13 70,
 m 14 71]
def b5_31 : EC := .rg b5_31l false
@[simp] theorem b5_31e : Rg b5_31 b5_31l false := rgE _ _
@[simp] def b5_32l : List EO := [m 72 9,
 m 73 11,
 o 74 (.bin .eql) [t 72, t 73],
 m 75 74,
 y 76 75 .mv [t 10],
 y 77 75 .mv [t 12],
 y 78 75 (.bin .eql) [t 76, t 77],
 o 79 .pick [t 75, t 78, b false],
 m 80 79,
 y 81 80 .mv [t 9],
 y 82 80 .mv [t 13],
 y 83 80 (.bin .eql) [t 81, t 82],
 o 84 .pick [t 80, t 83, b false],
 m 85 84,
 y 86 85 .mv [t 10],
 y 87 85 .mv [t 14],
 y 88 85 (.bin .eql) [t 86, t 87],
 o 89 .pick [t 85, t 88, b false],
 m 6 89]
def b5_32 : EC := .rg b5_32l false
@[simp] theorem b5_32e : Rg b5_32 b5_32l false := rgE _ _
def b5_33 : EC := .sq b5_32 .rt
@[simp] theorem b5_33e : Sq b5_33 b5_32 .rt := sqE _ _
def b5_34 : EC := .sq b5_31 b5_33
@[simp] theorem b5_34e : Sq b5_34 b5_31 b5_33 := sqE _ _
def b5_35 : EC := .sq b5_30 b5_34
@[simp] theorem b5_35e : Sq b5_35 b5_30 b5_34 := sqE _ _
def b5_36 : EC := .sq b5_29 b5_35
@[simp] theorem b5_36e : Sq b5_36 b5_29 b5_35 := sqE _ _
def b5_37 : EC := .sq b5_28 b5_36
@[simp] theorem b5_37e : Sq b5_37 b5_28 b5_36 := sqE _ _
def b5_38 : EC := .sq b5_11 b5_37
@[simp] theorem b5_38e : Sq b5_38 b5_11 b5_37 := sqE _ _
def b5_39 : EC := .sq b5_10 b5_38
@[simp] theorem b5_39e : Sq b5_39 b5_10 b5_38 := sqE _ _
def b5_40 : EC := .sq b5_5 b5_39
@[simp] theorem b5_40e : Sq b5_40 b5_5 b5_39 := sqE _ _
def b5_41 : EC := .sq b5_0 b5_40
@[simp] theorem b5_41e : Sq b5_41 b5_0 b5_40 := sqE _ _
def b_tallystonelaw33_CheckTypes_5 : EC := b5_41
theorem kb_5 : ecB Tryd.prog 5 = some (90, b_tallystonelaw33_CheckTypes_5, [.tm 6]) := by kernel_rfl

/-- tallystone/tallystonelaw34.CompileValid -/
@[simp] def c6_0l : List EO := [o 2 .box [t 0],
 o 3 .box [t 1],
 o 4 .mv [b false]]
def c6_0 : EC := .rg c6_0l false
@[simp] theorem c6_0e : Rg c6_0 c6_0l false := rgE _ _
@[simp] def c6_1l : List EO := [o 14 (.call 12) [],
 o 15 (.un .not) [t 14]]
def c6_1 : EC := .rg c6_1l false
@[simp] theorem c6_1e : Rg c6_1 c6_1l false := rgE _ _
@[simp] def c6_2l : List EO := [o 4 .mv [b false]]
def c6_2 : EC := .rg c6_2l false
@[simp] theorem c6_2e : Rg c6_2 c6_2l false := rgE _ _
def c6_3 : EC := .sq c6_2 .rt
@[simp] theorem c6_3e : Sq c6_3 c6_2 .rt := sqE _ _
def c6_4 : EC := .cd (t 15) c6_3 .skip
@[simp] theorem c6_4e : Cd c6_4 (t 15) c6_3 .skip := cdE _ _ _
def c6_5 : EC := .sq c6_1 c6_4
@[simp] theorem c6_5e : Sq c6_5 c6_1 c6_4 := sqE _ _
@[simp] def c6_6l : List EO := [o 16 (.load 3 true) [t 2],
 o 17 (.call 21) [t 16],
 o 18 (.un .not) [t 17],
 m 19 18,
 n 20 19 (.load 3 true) [t 3],
 n 21 19 (.call 21) [t 20],
 n 22 19 (.un .not) [t 21],
 o 23 .pick [t 19, b true, t 22]]
def c6_6 : EC := .rg c6_6l false
@[simp] theorem c6_6e : Rg c6_6 c6_6l false := rgE _ _
@[simp] def c6_7l : List EO := [o 4 .mv [b true]]
def c6_7 : EC := .rg c6_7l false
@[simp] theorem c6_7e : Rg c6_7 c6_7l false := rgE _ _
def c6_8 : EC := .sq c6_7 .rt
@[simp] theorem c6_8e : Sq c6_8 c6_7 .rt := sqE _ _
def c6_9 : EC := .cd (t 23) c6_8 .skip
@[simp] theorem c6_9e : Cd c6_9 (t 23) c6_8 .skip := cdE _ _ _
def c6_10 : EC := .sq c6_6 c6_9
@[simp] theorem c6_10e : Sq c6_10 c6_6 c6_9 := sqE _ _
@[simp] def c6_11l : List EO := [o 24 (.load 3 true) [t 2],
 o 25 (.call 22) [t 24],
 o 5 (.alloc [.t (.str []), .t (.bool false), .snil]) [],
 u (.store 3) [t 5, t 25]]
def c6_11 : EC := .rg c6_11l false
@[simp] theorem c6_11e : Rg c6_11 c6_11l false := rgE _ _
@[simp] def c6_12l : List EO := [o 27 (.load 3 true) [t 5],
 o 28 (.call 23) [t 27],
 m 26 28,
 o 29 (.ext 0) [t 26],
 o 30 (.ext 1) [t 26],
 m 6 29,
 m 7 30]
def c6_12 : EC := .rg c6_12l false
@[simp] theorem c6_12e : Rg c6_12 c6_12l false := rgE _ _
@[simp] def c6_13l : List EO := [o 32 (.load 3 true) [t 2],
 o 33 (.call 24) [t 32],
 m 31 33,
 o 34 (.ext 0) [t 31],
 o 35 (.ext 1) [t 31],
 m 8 34,
 m 9 35]
def c6_13 : EC := .rg c6_13l false
@[simp] theorem c6_13e : Rg c6_13 c6_13l false := rgE _ _
@[simp] def c6_14l : List EO := [o 37 (.load 3 true) [t 5],
 o 38 (.call 25) [t 37],
 m 36 38,
 o 39 (.ext 0) [t 36],
 o 40 (.ext 1) [t 36],
 o 10 (.alloc [.t (.str []), .t (.bool false), .snil]) [],
 u (.store 3) [t 10, t 39],
 m 11 40]
def c6_14 : EC := .rg c6_14l false
@[simp] theorem c6_14e : Rg c6_14 c6_14l false := rgE _ _
@[simp] def c6_15l : List EO := [o 42 (.load 3 true) [t 5],
 o 43 (.call 26) [t 42],
 m 41 43,
 o 44 (.ext 0) [t 41],
 o 45 (.ext 1) [t 41],
 m 12 44,
 m 13 45]
def c6_15 : EC := .rg c6_15l false
@[simp] theorem c6_15e : Rg c6_15 c6_15l false := rgE _ _
@[simp] def c6_16l : List EO := [o 46 (.load 3 true) [t 5],
 o 47 (.call 27) [t 46],
 o 48 (.load 3 true) [t 2],
 o 49 (.call 28) [t 48],
 o 50 (.eqv true false [0]) [t 47, t 49],
 m 51 50,
 n 52 51 .mv [t 6],
 n 53 51 .mv [t 8],
 n 54 51 (.bin .neq) [t 52, t 53],
 o 55 .pick [t 51, b true, t 54],
 m 56 55,
 n 57 56 .mv [t 7],
 n 58 56 .mv [t 9],
 n 59 56 (.bin .neq) [t 57, t 58],
 o 60 .pick [t 56, b true, t 59],
 m 61 60,
 n 62 61 (.load 3 true) [t 5],
 n 63 61 (.load 3 true) [t 3],
 n 64 61 (.call 22) [t 63],
 n 65 61 (.call 29) [t 62, t 64],
 n 66 61 (.load 3 true) [t 2],
 n 67 61 (.load 3 true) [t 3],
 n 68 61 (.call 30) [t 66, t 67],
 n 69 61 (.eqv true false [0]) [t 65, t 68],
 o 70 .pick [t 61, b true, t 69],
 m 71 70,
 n 72 71 (.load 3 true) [t 5],
 n 73 71 (.load 3 true) [t 5],
 n 74 71 (.call 29) [t 72, t 73],
 n 75 71 (.un .not) [t 74],
 o 76 .pick [t 71, b true, t 75]]
def c6_16 : EC := .rg c6_16l true
@[simp] theorem c6_16e : Rg c6_16 c6_16l true := rgE _ _
@[simp] def c6_17l : List EO := [o 4 .mv [b false]]
def c6_17 : EC := .rg c6_17l false
@[simp] theorem c6_17e : Rg c6_17 c6_17l false := rgE _ _
def c6_18 : EC := .sq c6_17 .rt
@[simp] theorem c6_18e : Sq c6_18 c6_17 .rt := sqE _ _
def c6_19 : EC := .cd (t 76) c6_18 .skip
@[simp] theorem c6_19e : Cd c6_19 (t 76) c6_18 .skip := cdE _ _ _
def c6_20 : EC := .sq c6_16 c6_19
@[simp] theorem c6_20e : Sq c6_20 c6_16 c6_19 := sqE _ _
@[simp] def c6_21l : List EO := [o 77 (.load 3 true) [t 2],
 o 78 (.call 28) [t 77],
 o 79 (.un .not) [t 78]]
def c6_21 : EC := .rg c6_21l false
@[simp] theorem c6_21e : Rg c6_21 c6_21l false := rgE _ _
@[simp] def c6_22l : List EO := [m 80 11,
 o 81 (.bin .eql) [t 80, i 1],
 m 82 81,
 y 83 82 .mv [t 13],
 y 84 82 (.bin .eql) [t 83, i 1],
 o 85 .pick [t 82, t 84, b false],
 m 86 85,
 y 87 86 .mv [t 12],
 y 88 86 (.bin .eql) [t 87, c (.t (.str []))],
 o 89 .pick [t 86, t 88, b false],
 m 90 89,
 y 91 90 (.load 3 true) [t 10],
 y 92 90 (.build [.t (.str []), .t (.bool false), .snil] []) [],
 y 93 90 (.call 29) [t 91, t 92],
 o 94 .pick [t 90, t 93, b false],
 m 4 94]
def c6_22 : EC := .rg c6_22l false
@[simp] theorem c6_22e : Rg c6_22 c6_22l false := rgE _ _
def c6_23 : EC := .sq c6_22 .rt
@[simp] theorem c6_23e : Sq c6_23 c6_22 .rt := sqE _ _
def c6_24 : EC := .cd (t 79) c6_23 .skip
@[simp] theorem c6_24e : Cd c6_24 (t 79) c6_23 .skip := cdE _ _ _
def c6_25 : EC := .sq c6_21 c6_24
@[simp] theorem c6_25e : Sq c6_25 c6_21 c6_24 := sqE _ _
@[simp] def c6_26l : List EO := [m 95 11,
 o 96 (.bin .eql) [t 95, i 0],
 m 97 96,
 y 98 97 .mv [t 13],
 y 99 97 (.bin .eql) [t 98, i 0],
 o 100 .pick [t 97, t 99, b false],
 m 101 100,
 y 102 101 .mv [t 12],
 y 103 101 (.load 3 true) [t 2],
 y 104 101 (.call 31) [t 103],
 y 105 101 (.bin .eql) [t 102, t 104],
 o 106 .pick [t 101, t 105, b false],
 m 107 106,
 y 108 107 (.load 3 true) [t 10],
 y 109 107 (.load 3 true) [t 2],
 y 110 107 (.call 32) [t 109],
 y 111 107 (.call 22) [t 110],
 y 112 107 (.call 29) [t 108, t 111],
 o 113 .pick [t 107, t 112, b false],
 m 4 113]
def c6_26 : EC := .rg c6_26l true
@[simp] theorem c6_26e : Rg c6_26 c6_26l true := rgE _ _
def c6_27 : EC := .sq c6_26 .rt
@[simp] theorem c6_27e : Sq c6_27 c6_26 .rt := sqE _ _
def c6_28 : EC := .sq c6_25 c6_27
@[simp] theorem c6_28e : Sq c6_28 c6_25 c6_27 := sqE _ _
def c6_29 : EC := .sq c6_20 c6_28
@[simp] theorem c6_29e : Sq c6_29 c6_20 c6_28 := sqE _ _
def c6_30 : EC := .sq c6_15 c6_29
@[simp] theorem c6_30e : Sq c6_30 c6_15 c6_29 := sqE _ _
def c6_31 : EC := .sq c6_14 c6_30
@[simp] theorem c6_31e : Sq c6_31 c6_14 c6_30 := sqE _ _
def c6_32 : EC := .sq c6_13 c6_31
@[simp] theorem c6_32e : Sq c6_32 c6_13 c6_31 := sqE _ _
def c6_33 : EC := .sq c6_12 c6_32
@[simp] theorem c6_33e : Sq c6_33 c6_12 c6_32 := sqE _ _
def c6_34 : EC := .sq c6_11 c6_33
@[simp] theorem c6_34e : Sq c6_34 c6_11 c6_33 := sqE _ _
def c6_35 : EC := .sq c6_10 c6_34
@[simp] theorem c6_35e : Sq c6_35 c6_10 c6_34 := sqE _ _
def c6_36 : EC := .sq c6_5 c6_35
@[simp] theorem c6_36e : Sq c6_36 c6_5 c6_35 := sqE _ _
def c6_37 : EC := .sq c6_0 c6_36
@[simp] theorem c6_37e : Sq c6_37 c6_0 c6_36 := sqE _ _
def c_tallystonelaw34_CompileValid_6 : EC := c6_37
theorem k_6 : ecF Tryd.prog 6 = some (114, c_tallystonelaw34_CompileValid_6, [.tm 4]) := by kernel_rfl

/-- tallystone/tallystonelaw34.CompileFolds -/
@[simp] def c7_0l : List EO := [o 1 .box [t 0],
 o 2 .mv [b false]]
def c7_0 : EC := .rg c7_0l false
@[simp] theorem c7_0e : Rg c7_0 c7_0l false := rgE _ _
@[simp] def c7_1l : List EO := [o 12 (.call 12) [],
 o 13 (.un .not) [t 12]]
def c7_1 : EC := .rg c7_1l false
@[simp] theorem c7_1e : Rg c7_1 c7_1l false := rgE _ _
@[simp] def c7_2l : List EO := [o 2 .mv [b false]]
def c7_2 : EC := .rg c7_2l false
@[simp] theorem c7_2e : Rg c7_2 c7_2l false := rgE _ _
def c7_3 : EC := .sq c7_2 .rt
@[simp] theorem c7_3e : Sq c7_3 c7_2 .rt := sqE _ _
def c7_4 : EC := .cd (t 13) c7_3 .skip
@[simp] theorem c7_4e : Cd c7_4 (t 13) c7_3 .skip := cdE _ _ _
def c7_5 : EC := .sq c7_1 c7_4
@[simp] theorem c7_5e : Sq c7_5 c7_1 c7_4 := sqE _ _
@[simp] def c7_6l : List EO := [o 14 (.load 3 true) [t 1],
 o 15 (.call 21) [t 14],
 o 16 (.un .not) [t 15]]
def c7_6 : EC := .rg c7_6l false
@[simp] theorem c7_6e : Rg c7_6 c7_6l false := rgE _ _
@[simp] def c7_7l : List EO := [o 2 .mv [b true]]
def c7_7 : EC := .rg c7_7l false
@[simp] theorem c7_7e : Rg c7_7 c7_7l false := rgE _ _
def c7_8 : EC := .sq c7_7 .rt
@[simp] theorem c7_8e : Sq c7_8 c7_7 .rt := sqE _ _
def c7_9 : EC := .cd (t 16) c7_8 .skip
@[simp] theorem c7_9e : Cd c7_9 (t 16) c7_8 .skip := cdE _ _ _
def c7_10 : EC := .sq c7_6 c7_9
@[simp] theorem c7_10e : Sq c7_10 c7_6 c7_9 := sqE _ _
@[simp] def c7_11l : List EO := [o 17 (.load 3 true) [t 1],
 o 18 (.call 22) [t 17],
 o 3 (.alloc [.t (.str []), .t (.bool false), .snil]) [],
 u (.store 3) [t 3, t 18]]
def c7_11 : EC := .rg c7_11l false
@[simp] theorem c7_11e : Rg c7_11 c7_11l false := rgE _ _
@[simp] def c7_12l : List EO := [o 20 (.load 3 true) [t 3],
 o 21 (.call 25) [t 20],
 m 19 21,
 o 22 (.ext 0) [t 19],
 o 23 (.ext 1) [t 19],
 o 4 (.alloc [.t (.str []), .t (.bool false), .snil]) [],
 u (.store 3) [t 4, t 22],
 m 5 23]
def c7_12 : EC := .rg c7_12l false
@[simp] theorem c7_12e : Rg c7_12 c7_12l false := rgE _ _
@[simp] def c7_13l : List EO := [o 24 (.load 3 true) [t 3],
 o 25 (.call 27) [t 24],
 o 26 (.un .not) [t 25]]
def c7_13 : EC := .rg c7_13l false
@[simp] theorem c7_13e : Rg c7_13 c7_13l false := rgE _ _
@[simp] def c7_14l : List EO := [m 27 5,
 o 28 (.bin .eql) [t 27, i 1],
 m 2 28]
def c7_14 : EC := .rg c7_14l false
@[simp] theorem c7_14e : Rg c7_14 c7_14l false := rgE _ _
def c7_15 : EC := .sq c7_14 .rt
@[simp] theorem c7_15e : Sq c7_15 c7_14 .rt := sqE _ _
def c7_16 : EC := .cd (t 26) c7_15 .skip
@[simp] theorem c7_16e : Cd c7_16 (t 26) c7_15 .skip := cdE _ _ _
def c7_17 : EC := .sq c7_13 c7_16
@[simp] theorem c7_17e : Sq c7_17 c7_13 c7_16 := sqE _ _
@[simp] def c7_18l : List EO := [o 30 (.load 3 true) [t 4],
 o 31 (.call 25) [t 30],
 m 29 31,
 o 32 (.ext 0) [t 29],
 o 33 (.ext 1) [t 29],
 o 6 (.alloc [.t (.str []), .t (.bool false), .snil]) [],
 u (.store 3) [t 6, t 32],
 m 7 33]
def c7_18 : EC := .rg c7_18l false
@[simp] theorem c7_18e : Rg c7_18 c7_18l false := rgE _ _
@[simp] def c7_19l : List EO := [o 35 (.load 3 true) [t 3],
 o 36 (.call 23) [t 35],
 m 34 36,
 o 37 (.ext 0) [t 34],
 o 38 (.ext 1) [t 34],
 m 8 37,
 m 9 38]
def c7_19 : EC := .rg c7_19l false
@[simp] theorem c7_19e : Rg c7_19 c7_19l false := rgE _ _
@[simp] def c7_20l : List EO := [o 40 (.load 3 true) [t 4],
 o 41 (.call 23) [t 40],
 m 39 41,
 o 42 (.ext 0) [t 39],
 o 43 (.ext 1) [t 39],
 m 10 42,
 m 11 43]
def c7_20 : EC := .rg c7_20l false
@[simp] theorem c7_20e : Rg c7_20 c7_20l false := rgE _ _
@[simp] def c7_21l : List EO := [m 44 5,
 o 45 (.bin .eql) [t 44, i 0],
 m 46 45,
 y 47 46 .mv [t 7],
 y 48 46 (.bin .eql) [t 47, i 0],
 o 49 .pick [t 46, t 48, b false],
 m 50 49,
 y 51 50 .mv [t 9],
 y 52 50 (.bin .eql) [t 51, i 0],
 o 53 .pick [t 50, t 52, b false],
 m 54 53,
 y 55 54 .mv [t 11],
 y 56 54 (.bin .eql) [t 55, i 0],
 o 57 .pick [t 54, t 56, b false],
 m 58 57,
 y 59 58 (.load 3 true) [t 4],
 y 60 58 (.call 27) [t 59],
 o 61 .pick [t 58, t 60, b false],
 m 62 61,
 y 63 62 (.load 3 true) [t 4],
 y 64 62 (.load 3 true) [t 6],
 y 65 62 (.call 29) [t 63, t 64],
 o 66 .pick [t 62, t 65, b false],
 m 67 66,
 y 68 67 (.faddr 2) [t 4],
 y 69 67 (.load 1 false) [t 68],
 y 70 67 .lenL [t 69],
 y 71 67 (.faddr 2) [t 3],
 y 72 67 (.load 1 false) [t 71],
 y 73 67 .lenL [t 72],
 y 74 67 (.bin .leq) [t 70, t 73],
 o 75 .pick [t 67, t 74, b false],
 m 76 75,
 y 77 76 .mv [t 10],
 y 78 76 .mv [t 8],
 y 79 76 (.bin .leq) [t 77, t 78],
 o 80 .pick [t 76, t 79, b false],
 m 2 80]
def c7_21 : EC := .rg c7_21l false
@[simp] theorem c7_21e : Rg c7_21 c7_21l false := rgE _ _
def c7_22 : EC := .sq c7_21 .rt
@[simp] theorem c7_22e : Sq c7_22 c7_21 .rt := sqE _ _
def c7_23 : EC := .sq c7_20 c7_22
@[simp] theorem c7_23e : Sq c7_23 c7_20 c7_22 := sqE _ _
def c7_24 : EC := .sq c7_19 c7_23
@[simp] theorem c7_24e : Sq c7_24 c7_19 c7_23 := sqE _ _
def c7_25 : EC := .sq c7_18 c7_24
@[simp] theorem c7_25e : Sq c7_25 c7_18 c7_24 := sqE _ _
def c7_26 : EC := .sq c7_17 c7_25
@[simp] theorem c7_26e : Sq c7_26 c7_17 c7_25 := sqE _ _
def c7_27 : EC := .sq c7_12 c7_26
@[simp] theorem c7_27e : Sq c7_27 c7_12 c7_26 := sqE _ _
def c7_28 : EC := .sq c7_11 c7_27
@[simp] theorem c7_28e : Sq c7_28 c7_11 c7_27 := sqE _ _
def c7_29 : EC := .sq c7_10 c7_28
@[simp] theorem c7_29e : Sq c7_29 c7_10 c7_28 := sqE _ _
def c7_30 : EC := .sq c7_5 c7_29
@[simp] theorem c7_30e : Sq c7_30 c7_5 c7_29 := sqE _ _
def c7_31 : EC := .sq c7_0 c7_30
@[simp] theorem c7_31e : Sq c7_31 c7_0 c7_30 := sqE _ _
def c_tallystonelaw34_CompileFolds_7 : EC := c7_31
theorem k_7 : ecF Tryd.prog 7 = some (81, c_tallystonelaw34_CompileFolds_7, [.tm 2]) := by kernel_rfl

/-- tallystone/tallystonelaw33.CheckProgram -/
@[simp] def c8_0l : List EO := [o 4 .mv [b false]]
def c8_0 : EC := .rg c8_0l false
@[simp] theorem c8_0e : Rg c8_0 c8_0l false := rgE _ _
@[simp] def c8_1l : List EO := [o 9 (.call 16) [],
 o 10 (.un .not) [t 9]]
def c8_1 : EC := .rg c8_1l false
@[simp] theorem c8_1e : Rg c8_1 c8_1l false := rgE _ _
@[simp] def c8_2l : List EO := [o 4 .mv [b false]]
def c8_2 : EC := .rg c8_2l false
@[simp] theorem c8_2e : Rg c8_2 c8_2l false := rgE _ _
def c8_3 : EC := .sq c8_2 .rt
@[simp] theorem c8_3e : Sq c8_3 c8_2 .rt := sqE _ _
def c8_4 : EC := .cd (t 10) c8_3 .skip
@[simp] theorem c8_4e : Cd c8_4 (t 10) c8_3 .skip := cdE _ _ _
def c8_5 : EC := .sq c8_1 c8_4
@[simp] theorem c8_5e : Sq c8_5 c8_1 c8_4 := sqE _ _
@[simp] def c8_6l : List EO := [m 11 0,
 m 12 1,
 o 13 (.call 33) [t 11, t 12],
 o 14 (.un .not) [t 13]]
def c8_6 : EC := .rg c8_6l false
@[simp] theorem c8_6e : Rg c8_6 c8_6l false := rgE _ _
@[simp] def c8_7l : List EO := [o 4 .mv [b true]]
def c8_7 : EC := .rg c8_7l false
@[simp] theorem c8_7e : Rg c8_7 c8_7l false := rgE _ _
def c8_8 : EC := .sq c8_7 .rt
@[simp] theorem c8_8e : Sq c8_8 c8_7 .rt := sqE _ _
def c8_9 : EC := .cd (t 14) c8_8 .skip
@[simp] theorem c8_9e : Cd c8_9 (t 14) c8_8 .skip := cdE _ _ _
def c8_10 : EC := .sq c8_6 c8_9
@[simp] theorem c8_10e : Sq c8_10 c8_6 c8_9 := sqE _ _
@[simp] def c8_11l : List EO := [m 16 0,
 o 17 (.call 35) [t 16],
 m 18 1,
 o 19 (.call 34) [t 17, t 18],
 m 15 19,
 o 20 (.ext 0) [t 15],
 o 21 (.ext 1) [t 15],
 m 5 20,
 m 6 21]
def c8_11 : EC := .rg c8_11l false
@[simp] theorem c8_11e : Rg c8_11 c8_11l false := rgE _ _
@[simp] def c8_12l : List EO := [m 23 0,
 m 24 1,
 o 25 (.call 36) [t 23, t 24],
 m 22 25,
 o 26 (.ext 0) [t 22],
 o 27 (.ext 1) [t 22],
 m 7 26,
 m 8 27]
def c8_12 : EC := .rg c8_12l false
@[simp] theorem c8_12e : Rg c8_12 c8_12l false := rgE _ _
@[simp] def c8_13l : List EO := [m 28 5,
 m 29 7,
 o 30 (.bin .eql) [t 28, t 29],
 m 31 30,
 y 32 31 .mv [t 6],
 y 33 31 .mv [t 8],
 y 34 31 (.bin .eql) [t 32, t 33],
 o 35 .pick [t 31, t 34, b false],
 m 4 35]
def c8_13 : EC := .rg c8_13l false
@[simp] theorem c8_13e : Rg c8_13 c8_13l false := rgE _ _
def c8_14 : EC := .sq c8_13 .rt
@[simp] theorem c8_14e : Sq c8_14 c8_13 .rt := sqE _ _
def c8_15 : EC := .sq c8_12 c8_14
@[simp] theorem c8_15e : Sq c8_15 c8_12 c8_14 := sqE _ _
def c8_16 : EC := .sq c8_11 c8_15
@[simp] theorem c8_16e : Sq c8_16 c8_11 c8_15 := sqE _ _
def c8_17 : EC := .sq c8_10 c8_16
@[simp] theorem c8_17e : Sq c8_17 c8_10 c8_16 := sqE _ _
def c8_18 : EC := .sq c8_5 c8_17
@[simp] theorem c8_18e : Sq c8_18 c8_5 c8_17 := sqE _ _
def c8_19 : EC := .sq c8_0 c8_18
@[simp] theorem c8_19e : Sq c8_19 c8_0 c8_18 := sqE _ _
def c_tallystonelaw33_CheckProgram_8 : EC := c8_19
theorem k_8 : ecF Tryd.prog 8 = some (36, c_tallystonelaw33_CheckProgram_8, [.tm 4]) := by kernel_rfl

/-- tallystone/tallystonelaw33.CheckPrefixes -/
@[simp] def c9_0l : List EO := [o 6 .mv [b false]]
def c9_0 : EC := .rg c9_0l false
@[simp] theorem c9_0e : Rg c9_0 c9_0l false := rgE _ _
@[simp] def c9_1l : List EO := [o 12 (.call 16) [],
 o 13 (.un .not) [t 12]]
def c9_1 : EC := .rg c9_1l false
@[simp] theorem c9_1e : Rg c9_1 c9_1l false := rgE _ _
@[simp] def c9_2l : List EO := [o 6 .mv [b false]]
def c9_2 : EC := .rg c9_2l false
@[simp] theorem c9_2e : Rg c9_2 c9_2l false := rgE _ _
def c9_3 : EC := .sq c9_2 .rt
@[simp] theorem c9_3e : Sq c9_3 c9_2 .rt := sqE _ _
def c9_4 : EC := .cd (t 13) c9_3 .skip
@[simp] theorem c9_4e : Cd c9_4 (t 13) c9_3 .skip := cdE _ _ _
def c9_5 : EC := .sq c9_1 c9_4
@[simp] theorem c9_5e : Sq c9_5 c9_1 c9_4 := sqE _ _
@[simp] def c9_6l : List EO := [m 14 0,
 m 15 1,
 o 16 (.call 33) [t 14, t 15],
 o 17 (.un .not) [t 16]]
def c9_6 : EC := .rg c9_6l false
@[simp] theorem c9_6e : Rg c9_6 c9_6l false := rgE _ _
@[simp] def c9_7l : List EO := [o 6 .mv [b true]]
def c9_7 : EC := .rg c9_7l false
@[simp] theorem c9_7e : Rg c9_7 c9_7l false := rgE _ _
def c9_8 : EC := .sq c9_7 .rt
@[simp] theorem c9_8e : Sq c9_8 c9_7 .rt := sqE _ _
def c9_9 : EC := .cd (t 17) c9_8 .skip
@[simp] theorem c9_9e : Cd c9_9 (t 17) c9_8 .skip := cdE _ _ _
def c9_10 : EC := .sq c9_6 c9_9
@[simp] theorem c9_10e : Sq c9_10 c9_6 c9_9 := sqE _ _
@[simp] def c9_11l : List EO := [m 19 0,
 o 20 (.call 35) [t 19],
 m 21 1,
 o 22 (.call 34) [t 20, t 21],
 m 18 22,
 o 23 (.ext 0) [t 18],
 o 24 (.ext 1) [t 18],
 m 7 23,
 m 8 24]
def c9_11 : EC := .rg c9_11l false
@[simp] theorem c9_11e : Rg c9_11 c9_11l false := rgE _ _
@[simp] def c9_12l : List EO := [m 25 2,
 o 26 (.cvI .i64) [t 25],
 m 27 0,
 o 28 .lenL [t 27],
 o 29 (.bin .add) [t 28, i 1],
 o 30 (.bin .rem) [t 26, t 29],
 m 9 30]
def c9_12 : EC := .rg c9_12l false
@[simp] theorem c9_12e : Rg c9_12 c9_12l false := rgE _ _
@[simp] def c9_13l : List EO := [m 32 0,
 m 33 9,
 o 34 (.slL 4 false true false) [t 32, t 33],
 o 35 (.call 35) [t 34],
 m 36 1,
 o 37 (.call 34) [t 35, t 36],
 m 31 37,
 o 38 (.ext 0) [t 31],
 o 39 (.ext 1) [t 31],
 m 10 38,
 m 11 39]
def c9_13 : EC := .rg c9_13l false
@[simp] theorem c9_13e : Rg c9_13 c9_13l false := rgE _ _
@[simp] def c9_14l : List EO := [m 40 8,
 o 41 (.bin .eql) [t 40, i 1]]
def c9_14 : EC := .rg c9_14l false
@[simp] theorem c9_14e : Rg c9_14 c9_14l false := rgE _ _
@[simp] def c9_15l : List EO := [m 42 7,
 o 43 (.bin .eql) [t 42, i 0],
 m 6 43]
def c9_15 : EC := .rg c9_15l false
@[simp] theorem c9_15e : Rg c9_15 c9_15l false := rgE _ _
def c9_16 : EC := .sq c9_15 .rt
@[simp] theorem c9_16e : Sq c9_16 c9_15 .rt := sqE _ _
def c9_17 : EC := .cd (t 41) c9_16 .skip
@[simp] theorem c9_17e : Cd c9_17 (t 41) c9_16 .skip := cdE _ _ _
def c9_18 : EC := .sq c9_14 c9_17
@[simp] theorem c9_18e : Sq c9_18 c9_14 c9_17 := sqE _ _
@[simp] def c9_19l : List EO := [m 44 8,
 o 45 (.bin .eql) [t 44, i 0],
 m 46 45,
 n 47 46 .mv [t 9],
 n 48 46 .mv [t 7],
 n 49 46 (.bin .leq) [t 47, t 48],
 o 50 .pick [t 46, b true, t 49]]
def c9_19 : EC := .rg c9_19l false
@[simp] theorem c9_19e : Rg c9_19 c9_19l false := rgE _ _
@[simp] def c9_20l : List EO := [m 51 10,
 o 52 (.bin .eql) [t 51, i 0],
 m 53 52,
 y 54 53 .mv [t 11],
 y 55 53 (.bin .eql) [t 54, i 0],
 o 56 .pick [t 53, t 55, b false],
 m 6 56]
def c9_20 : EC := .rg c9_20l false
@[simp] theorem c9_20e : Rg c9_20 c9_20l false := rgE _ _
def c9_21 : EC := .sq c9_20 .rt
@[simp] theorem c9_21e : Sq c9_21 c9_20 .rt := sqE _ _
def c9_22 : EC := .cd (t 50) c9_21 .skip
@[simp] theorem c9_22e : Cd c9_22 (t 50) c9_21 .skip := cdE _ _ _
def c9_23 : EC := .sq c9_19 c9_22
@[simp] theorem c9_23e : Sq c9_23 c9_19 c9_22 := sqE _ _
@[simp] def c9_24l : List EO := [m 57 10,
 m 58 7,
 o 59 (.bin .eql) [t 57, t 58],
 m 60 59,
 y 61 60 .mv [t 11],
 y 62 60 .mv [t 8],
 y 63 60 (.bin .eql) [t 61, t 62],
 o 64 .pick [t 60, t 63, b false],
 m 6 64]
def c9_24 : EC := .rg c9_24l false
@[simp] theorem c9_24e : Rg c9_24 c9_24l false := rgE _ _
def c9_25 : EC := .sq c9_24 .rt
@[simp] theorem c9_25e : Sq c9_25 c9_24 .rt := sqE _ _
def c9_26 : EC := .sq c9_23 c9_25
@[simp] theorem c9_26e : Sq c9_26 c9_23 c9_25 := sqE _ _
def c9_27 : EC := .sq c9_18 c9_26
@[simp] theorem c9_27e : Sq c9_27 c9_18 c9_26 := sqE _ _
def c9_28 : EC := .sq c9_13 c9_27
@[simp] theorem c9_28e : Sq c9_28 c9_13 c9_27 := sqE _ _
def c9_29 : EC := .sq c9_12 c9_28
@[simp] theorem c9_29e : Sq c9_29 c9_12 c9_28 := sqE _ _
def c9_30 : EC := .sq c9_11 c9_29
@[simp] theorem c9_30e : Sq c9_30 c9_11 c9_29 := sqE _ _
def c9_31 : EC := .sq c9_10 c9_30
@[simp] theorem c9_31e : Sq c9_31 c9_10 c9_30 := sqE _ _
def c9_32 : EC := .sq c9_5 c9_31
@[simp] theorem c9_32e : Sq c9_32 c9_5 c9_31 := sqE _ _
def c9_33 : EC := .sq c9_0 c9_32
@[simp] theorem c9_33e : Sq c9_33 c9_0 c9_32 := sqE _ _
def c_tallystonelaw33_CheckPrefixes_9 : EC := c9_33
theorem k_9 : ecF Tryd.prog 9 = some (65, c_tallystonelaw33_CheckPrefixes_9, [.tm 6]) := by kernel_rfl

/-- tallystone/tallystonelaw33.CheckRenames -/
@[simp] def c10_0l : List EO := [o 6 .mv [b false]]
def c10_0 : EC := .rg c10_0l false
@[simp] theorem c10_0e : Rg c10_0 c10_0l false := rgE _ _
@[simp] def c10_1l : List EO := [o 22 (.call 16) [],
 o 23 (.un .not) [t 22]]
def c10_1 : EC := .rg c10_1l false
@[simp] theorem c10_1e : Rg c10_1 c10_1l false := rgE _ _
@[simp] def c10_2l : List EO := [o 6 .mv [b false]]
def c10_2 : EC := .rg c10_2l false
@[simp] theorem c10_2e : Rg c10_2 c10_2l false := rgE _ _
def c10_3 : EC := .sq c10_2 .rt
@[simp] theorem c10_3e : Sq c10_3 c10_2 .rt := sqE _ _
def c10_4 : EC := .cd (t 23) c10_3 .skip
@[simp] theorem c10_4e : Cd c10_4 (t 23) c10_3 .skip := cdE _ _ _
def c10_5 : EC := .sq c10_1 c10_4
@[simp] theorem c10_5e : Sq c10_5 c10_1 c10_4 := sqE _ _
@[simp] def c10_6l : List EO := [m 24 0,
 m 25 1,
 o 26 (.call 33) [t 24, t 25],
 o 27 (.un .not) [t 26],
 m 28 27,
 n 29 28 .mv [t 0],
 n 30 28 .lenL [t 29],
 n 31 28 (.bin .eql) [t 30, i 0],
 o 32 .pick [t 28, b true, t 31],
 m 33 32,
 n 34 33 .mv [t 2],
 n 35 33 .lenL [t 34],
 n 36 33 (.bin .gtr) [t 35, i 40],
 o 37 .pick [t 33, b true, t 36]]
def c10_6 : EC := .rg c10_6l false
@[simp] theorem c10_6e : Rg c10_6 c10_6l false := rgE _ _
@[simp] def c10_7l : List EO := [o 6 .mv [b true]]
def c10_7 : EC := .rg c10_7l false
@[simp] theorem c10_7e : Rg c10_7 c10_7l false := rgE _ _
def c10_8 : EC := .sq c10_7 .rt
@[simp] theorem c10_8e : Sq c10_8 c10_7 .rt := sqE _ _
def c10_9 : EC := .cd (t 37) c10_8 .skip
@[simp] theorem c10_9e : Cd c10_9 (t 37) c10_8 .skip := cdE _ _ _
def c10_10 : EC := .sq c10_6 c10_9
@[simp] theorem c10_10e : Sq c10_10 c10_6 c10_9 := sqE _ _
@[simp] def c10_11l : List EO := [o 7 .mv [i 0]]
def c10_11 : EC := .rg c10_11l false
@[simp] theorem c10_11e : Rg c10_11 c10_11l false := rgE _ _
@[simp] def c10_12l : List EO := [m 38 7,
 m 39 2,
 o 40 .lenL [t 39],
 o 41 (.bin .lss) [t 38, t 40]]
def c10_12 : EC := .rg c10_12l false
@[simp] theorem c10_12e : Rg c10_12 c10_12l false := rgE _ _
def c10_13 : EC := .cd (t 41) .skip (.ex 0)
@[simp] theorem c10_13e : Cd c10_13 (t 41) .skip (.ex 0) := cdE _ _ _
def c10_14 : EC := .sq c10_12 c10_13
@[simp] theorem c10_14e : Sq c10_14 c10_12 c10_13 := sqE _ _
@[simp] def c10_15l : List EO := [o 8 .mv [i 0]]
def c10_15 : EC := .rg c10_15l false
@[simp] theorem c10_15e : Rg c10_15 c10_15l false := rgE _ _
@[simp] def c10_16l : List EO := [m 44 8,
 m 45 7,
 o 46 (.bin .lss) [t 44, t 45]]
def c10_16 : EC := .rg c10_16l false
@[simp] theorem c10_16e : Rg c10_16 c10_16l false := rgE _ _
def c10_17 : EC := .cd (t 46) .skip (.ex 2)
@[simp] theorem c10_17e : Cd c10_17 (t 46) .skip (.ex 2) := cdE _ _ _
def c10_18 : EC := .sq c10_16 c10_17
@[simp] theorem c10_18e : Sq c10_18 c10_16 c10_17 := sqE _ _
@[simp] def c10_19l : List EO := [m 49 2,
 m 50 7,
 o 51 (.iaS 1) [t 49, t 50],
 o 52 (.load 1 false) [t 51],
 m 53 2,
 m 54 8,
 o 55 (.iaS 1) [t 53, t 54],
 o 56 (.load 1 false) [t 55],
 o 57 (.bin .eql) [t 52, t 56]]
def c10_19 : EC := .rg c10_19l true
@[simp] theorem c10_19e : Rg c10_19 c10_19l true := rgE _ _
@[simp] def c10_20l : List EO := [o 6 .mv [b true]]
def c10_20 : EC := .rg c10_20l false
@[simp] theorem c10_20e : Rg c10_20 c10_20l false := rgE _ _
def c10_21 : EC := .sq c10_20 .rt
@[simp] theorem c10_21e : Sq c10_21 c10_20 .rt := sqE _ _
def c10_22 : EC := .cd (t 57) c10_21 .skip
@[simp] theorem c10_22e : Cd c10_22 (t 57) c10_21 .skip := cdE _ _ _
def c10_23 : EC := .sq c10_19 c10_22
@[simp] theorem c10_23e : Sq c10_23 c10_19 c10_22 := sqE _ _
def c10_24 : EC := .bk 3 c10_23
@[simp] theorem c10_24e : Bk c10_24 3 c10_23 := bkE _ _
@[simp] def c10_25l : List EO := [m 47 8,
 o 48 (.bin .add) [t 47, i 1],
 m 8 48]
def c10_25 : EC := .rg c10_25l false
@[simp] theorem c10_25e : Rg c10_25 c10_25l false := rgE _ _
def c10_26 : EC := .sq c10_24 c10_25
@[simp] theorem c10_26e : Sq c10_26 c10_24 c10_25 := sqE _ _
def c10_27 : EC := .sq c10_18 c10_26
@[simp] theorem c10_27e : Sq c10_27 c10_18 c10_26 := sqE _ _
def c10_28 : EC := .bk 2 (.lp c10_27)
@[simp] theorem c10_28e : Bk c10_28 2 (.lp c10_27) := bkE _ _
def c10_29 : EC := .sq c10_15 c10_28
@[simp] theorem c10_29e : Sq c10_29 c10_15 c10_28 := sqE _ _
def c10_30 : EC := .bk 1 c10_29
@[simp] theorem c10_30e : Bk c10_30 1 c10_29 := bkE _ _
@[simp] def c10_31l : List EO := [m 42 7,
 o 43 (.bin .add) [t 42, i 1],
 m 7 43]
def c10_31 : EC := .rg c10_31l false
@[simp] theorem c10_31e : Rg c10_31 c10_31l false := rgE _ _
def c10_32 : EC := .sq c10_30 c10_31
@[simp] theorem c10_32e : Sq c10_32 c10_30 c10_31 := sqE _ _
def c10_33 : EC := .sq c10_14 c10_32
@[simp] theorem c10_33e : Sq c10_33 c10_14 c10_32 := sqE _ _
def c10_34 : EC := .bk 0 (.lp c10_33)
@[simp] theorem c10_34e : Bk c10_34 0 (.lp c10_33) := bkE _ _
def c10_35 : EC := .sq c10_11 c10_34
@[simp] theorem c10_35e : Sq c10_35 c10_11 c10_34 := sqE _ _
@[simp] def c10_36l : List EO := [m 58 0,
 m 59 0,
 o 60 .lenL [t 59],
 o 61 (.bin .sub) [t 60, i 1],
 o 62 (.iaS 4) [t 58, t 61],
 o 63 (.load 4 true) [t 62],
 o 9 (.alloc [.t (.str []), .t (.bool false), .snil, .t (.int .i64 0)]) [],
 u (.store 4) [t 9, t 63]]
def c10_36 : EC := .rg c10_36l false
@[simp] theorem c10_36e : Rg c10_36 c10_36l false := rgE _ _
@[simp] def c10_37l : List EO := [o 10 .mv [c (.snil)]]
def c10_37 : EC := .rg c10_37l false
@[simp] theorem c10_37e : Rg c10_37 c10_37l false := rgE _ _
@[simp] def c10_38l : List EO := [o 11 .mv [i 0]]
def c10_38 : EC := .rg c10_38l false
@[simp] theorem c10_38e : Rg c10_38 c10_38l false := rgE _ _
@[simp] def c10_39l : List EO := [m 64 11,
 o 65 (.faddr 2) [t 9],
 o 66 (.load 1 false) [t 65],
 o 67 .lenL [t 66],
 o 68 (.bin .lss) [t 64, t 67]]
def c10_39 : EC := .rg c10_39l false
@[simp] theorem c10_39e : Rg c10_39 c10_39l false := rgE _ _
def c10_40 : EC := .cd (t 68) .skip (.ex 4)
@[simp] theorem c10_40e : Cd c10_40 (t 68) .skip (.ex 4) := cdE _ _ _
def c10_41 : EC := .sq c10_39 c10_40
@[simp] theorem c10_41e : Sq c10_41 c10_39 c10_40 := sqE _ _
@[simp] def c10_42l : List EO := [o 71 (.faddr 2) [t 9],
 o 72 (.load 1 false) [t 71],
 m 73 11,
 o 74 (.iaS 9) [t 72, t 73],
 o 75 (.load 9 true) [t 74],
 o 12 (.alloc [.t (.int .i64 0), .t (.int .i64 0), .t (.str []), .t (.int .i64 0), .t (.int .i64 0), .t (.int .i64 0), .t (.int .i64 0), .t (.str []), .snil]) [],
 u (.store 9) [t 12, t 75]]
def c10_42 : EC := .rg c10_42l false
@[simp] theorem c10_42e : Rg c10_42 c10_42l false := rgE _ _
@[simp] def c10_43l : List EO := [o 76 (.faddr 0) [t 12],
 o 77 (.load 1 false) [t 76],
 o 78 (.bin .eql) [t 77, i 1],
 m 79 78,
 y 80 79 .mv [t 10],
 y 81 79 (.faddr 2) [t 12],
 y 82 79 (.load 1 false) [t 81],
 y 83 79 (.call 37) [t 80, t 82],
 y 84 79 (.un .not) [t 83],
 o 85 .pick [t 79, t 84, b false]]
def c10_43 : EC := .rg c10_43l false
@[simp] theorem c10_43e : Rg c10_43 c10_43l false := rgE _ _
@[simp] def c10_44l : List EO := [m 86 10,
 o 87 (.faddr 2) [t 12],
 o 88 (.load 1 false) [t 87],
 o 89 (.bsl 1) [t 88],
 o 90 (.app 9 1 16) [t 86, t 89],
 m 10 90]
def c10_44 : EC := .rg c10_44l false
@[simp] theorem c10_44e : Rg c10_44 c10_44l false := rgE _ _
def c10_45 : EC := .cd (t 85) c10_44 .skip
@[simp] theorem c10_45e : Cd c10_45 (t 85) c10_44 .skip := cdE _ _ _
def c10_46 : EC := .sq c10_43 c10_45
@[simp] theorem c10_46e : Sq c10_46 c10_43 c10_45 := sqE _ _
def c10_47 : EC := .sq c10_42 c10_46
@[simp] theorem c10_47e : Sq c10_47 c10_42 c10_46 := sqE _ _
def c10_48 : EC := .bk 5 c10_47
@[simp] theorem c10_48e : Bk c10_48 5 c10_47 := bkE _ _
@[simp] def c10_49l : List EO := [m 69 11,
 o 70 (.bin .add) [t 69, i 1],
 m 11 70]
def c10_49 : EC := .rg c10_49l false
@[simp] theorem c10_49e : Rg c10_49 c10_49l false := rgE _ _
def c10_50 : EC := .sq c10_48 c10_49
@[simp] theorem c10_50e : Sq c10_50 c10_48 c10_49 := sqE _ _
def c10_51 : EC := .sq c10_41 c10_50
@[simp] theorem c10_51e : Sq c10_51 c10_41 c10_50 := sqE _ _
def c10_52 : EC := .bk 4 (.lp c10_51)
@[simp] theorem c10_52e : Bk c10_52 4 (.lp c10_51) := bkE _ _
def c10_53 : EC := .sq c10_38 c10_52
@[simp] theorem c10_53e : Sq c10_53 c10_38 c10_52 := sqE _ _
@[simp] def c10_54l : List EO := [m 91 2,
 o 92 .lenL [t 91],
 m 93 10,
 o 94 .lenL [t 93],
 o 95 (.bin .lss) [t 92, t 94]]
def c10_54 : EC := .rg c10_54l false
@[simp] theorem c10_54e : Rg c10_54 c10_54l false := rgE _ _
@[simp] def c10_55l : List EO := [o 6 .mv [b true]]
def c10_55 : EC := .rg c10_55l false
@[simp] theorem c10_55e : Rg c10_55 c10_55l false := rgE _ _
def c10_56 : EC := .sq c10_55 .rt
@[simp] theorem c10_56e : Sq c10_56 c10_55 .rt := sqE _ _
def c10_57 : EC := .cd (t 95) c10_56 .skip
@[simp] theorem c10_57e : Cd c10_57 (t 95) c10_56 .skip := cdE _ _ _
def c10_58 : EC := .sq c10_54 c10_57
@[simp] theorem c10_58e : Sq c10_58 c10_54 c10_57 := sqE _ _
@[simp] def c10_59l : List EO := [o 13 .mv [c (.snil)]]
def c10_59 : EC := .rg c10_59l false
@[simp] theorem c10_59e : Rg c10_59 c10_59l false := rgE _ _
@[simp] def c10_60l : List EO := [o 14 .mv [i 0]]
def c10_60 : EC := .rg c10_60l false
@[simp] theorem c10_60e : Rg c10_60 c10_60l false := rgE _ _
@[simp] def c10_61l : List EO := [m 96 14,
 o 97 (.faddr 2) [t 9],
 o 98 (.load 1 false) [t 97],
 o 99 .lenL [t 98],
 o 100 (.bin .lss) [t 96, t 99]]
def c10_61 : EC := .rg c10_61l false
@[simp] theorem c10_61e : Rg c10_61 c10_61l false := rgE _ _
def c10_62 : EC := .cd (t 100) .skip (.ex 6)
@[simp] theorem c10_62e : Cd c10_62 (t 100) .skip (.ex 6) := cdE _ _ _
def c10_63 : EC := .sq c10_61 c10_62
@[simp] theorem c10_63e : Sq c10_63 c10_61 c10_62 := sqE _ _
@[simp] def c10_64l : List EO := [o 103 (.faddr 2) [t 9],
 o 104 (.load 1 false) [t 103],
 m 105 14,
 o 106 (.iaS 9) [t 104, t 105],
 o 107 (.load 9 true) [t 106],
 o 15 (.alloc [.t (.int .i64 0), .t (.int .i64 0), .t (.str []), .t (.int .i64 0), .t (.int .i64 0), .t (.int .i64 0), .t (.int .i64 0), .t (.str []), .snil]) [],
 u (.store 9) [t 15, t 107]]
def c10_64 : EC := .rg c10_64l false
@[simp] theorem c10_64e : Rg c10_64 c10_64l false := rgE _ _
@[simp] def c10_65l : List EO := [o 108 (.faddr 3) [t 15],
 o 109 (.load 6 true) [t 108],
 m 110 10,
 m 111 2,
 o 112 (.call 38) [t 109, t 110, t 111],
 o 113 (.faddr 3) [t 15],
 u (.store 6) [t 113, t 112]]
def c10_65 : EC := .rg c10_65l false
@[simp] theorem c10_65e : Rg c10_65 c10_65l false := rgE _ _
@[simp] def c10_66l : List EO := [o 16 .mv [i 0]]
def c10_66 : EC := .rg c10_66l false
@[simp] theorem c10_66e : Rg c10_66 c10_66l false := rgE _ _
@[simp] def c10_67l : List EO := [m 114 16,
 m 115 10,
 o 116 .lenL [t 115],
 o 117 (.bin .lss) [t 114, t 116],
 m 118 117,
 y 119 118 (.faddr 0) [t 15],
 y 120 118 (.load 1 false) [t 119],
 y 121 118 (.bin .eql) [t 120, i 1],
 o 122 .pick [t 118, t 121, b false]]
def c10_67 : EC := .rg c10_67l false
@[simp] theorem c10_67e : Rg c10_67 c10_67l false := rgE _ _
def c10_68 : EC := .cd (t 122) .skip (.ex 8)
@[simp] theorem c10_68e : Cd c10_68 (t 122) .skip (.ex 8) := cdE _ _ _
def c10_69 : EC := .sq c10_67 c10_68
@[simp] theorem c10_69e : Sq c10_69 c10_67 c10_68 := sqE _ _
@[simp] def c10_70l : List EO := [o 125 (.faddr 2) [t 9],
 o 126 (.load 1 false) [t 125],
 m 127 14,
 o 128 (.iaS 9) [t 126, t 127],
 o 129 (.faddr 2) [t 128],
 o 130 (.load 1 false) [t 129],
 m 131 10,
 m 132 16,
 o 133 (.iaS 1) [t 131, t 132],
 o 134 (.load 1 false) [t 133],
 o 135 (.bin .eql) [t 130, t 134]]
def c10_70 : EC := .rg c10_70l true
@[simp] theorem c10_70e : Rg c10_70 c10_70l true := rgE _ _
@[simp] def c10_71l : List EO := [m 136 2,
 m 137 16,
 o 138 (.iaS 1) [t 136, t 137],
 o 139 (.load 1 false) [t 138],
 o 140 (.faddr 2) [t 15],
 u (.store 1) [t 140, t 139]]
def c10_71 : EC := .rg c10_71l false
@[simp] theorem c10_71e : Rg c10_71 c10_71l false := rgE _ _
def c10_72 : EC := .cd (t 135) c10_71 .skip
@[simp] theorem c10_72e : Cd c10_72 (t 135) c10_71 .skip := cdE _ _ _
def c10_73 : EC := .sq c10_70 c10_72
@[simp] theorem c10_73e : Sq c10_73 c10_70 c10_72 := sqE _ _
def c10_74 : EC := .bk 9 c10_73
@[simp] theorem c10_74e : Bk c10_74 9 c10_73 := bkE _ _
@[simp] def c10_75l : List EO := [m 123 16,
 o 124 (.bin .add) [t 123, i 1],
 m 16 124]
def c10_75 : EC := .rg c10_75l false
@[simp] theorem c10_75e : Rg c10_75 c10_75l false := rgE _ _
def c10_76 : EC := .sq c10_74 c10_75
@[simp] theorem c10_76e : Sq c10_76 c10_74 c10_75 := sqE _ _
def c10_77 : EC := .sq c10_69 c10_76
@[simp] theorem c10_77e : Sq c10_77 c10_69 c10_76 := sqE _ _
def c10_78 : EC := .bk 8 (.lp c10_77)
@[simp] theorem c10_78e : Bk c10_78 8 (.lp c10_77) := bkE _ _
def c10_79 : EC := .sq c10_66 c10_78
@[simp] theorem c10_79e : Sq c10_79 c10_66 c10_78 := sqE _ _
@[simp] def c10_80l : List EO := [m 141 13,
 o 142 (.load 9 true) [t 15],
 o 143 (.bsl 9) [t 142],
 o 144 (.app 36 9 104) [t 141, t 143],
 m 13 144]
def c10_80 : EC := .rg c10_80l false
@[simp] theorem c10_80e : Rg c10_80 c10_80l false := rgE _ _
def c10_81 : EC := .sq c10_79 c10_80
@[simp] theorem c10_81e : Sq c10_81 c10_79 c10_80 := sqE _ _
def c10_82 : EC := .sq c10_65 c10_81
@[simp] theorem c10_82e : Sq c10_82 c10_65 c10_81 := sqE _ _
def c10_83 : EC := .sq c10_64 c10_82
@[simp] theorem c10_83e : Sq c10_83 c10_64 c10_82 := sqE _ _
def c10_84 : EC := .bk 7 c10_83
@[simp] theorem c10_84e : Bk c10_84 7 c10_83 := bkE _ _
@[simp] def c10_85l : List EO := [m 101 14,
 o 102 (.bin .add) [t 101, i 1],
 m 14 102]
def c10_85 : EC := .rg c10_85l false
@[simp] theorem c10_85e : Rg c10_85 c10_85l false := rgE _ _
def c10_86 : EC := .sq c10_84 c10_85
@[simp] theorem c10_86e : Sq c10_86 c10_84 c10_85 := sqE _ _
def c10_87 : EC := .sq c10_63 c10_86
@[simp] theorem c10_87e : Sq c10_87 c10_63 c10_86 := sqE _ _
def c10_88 : EC := .bk 6 (.lp c10_87)
@[simp] theorem c10_88e : Bk c10_88 6 (.lp c10_87) := bkE _ _
def c10_89 : EC := .sq c10_60 c10_88
@[simp] theorem c10_89e : Sq c10_89 c10_60 c10_88 := sqE _ _
@[simp] def c10_90l : List EO := [o 145 (.load 4 true) [t 9],
 m 146 10,
 m 147 2,
 o 148 (.call 39) [t 145, t 146, t 147]]
def c10_90 : EC := .rg c10_90l false
@[simp] theorem c10_90e : Rg c10_90 c10_90l false := rgE _ _
@[simp] def c10_91l : List EO := [o 6 .mv [b true]]
def c10_91 : EC := .rg c10_91l false
@[simp] theorem c10_91e : Rg c10_91 c10_91l false := rgE _ _
def c10_92 : EC := .sq c10_91 .rt
@[simp] theorem c10_92e : Sq c10_92 c10_91 .rt := sqE _ _
def c10_93 : EC := .cd (t 148) c10_92 .skip
@[simp] theorem c10_93e : Cd c10_93 (t 148) c10_92 .skip := cdE _ _ _
def c10_94 : EC := .sq c10_90 c10_93
@[simp] theorem c10_94e : Sq c10_94 c10_90 c10_93 := sqE _ _
@[simp] def c10_95l : List EO := [o 149 (.bsl 4) [],
 m 150 0,
 m 151 0,
 o 152 .lenL [t 151],
 o 153 (.bin .sub) [t 152, i 1],
 o 154 (.slL 4 false true false) [t 150, t 153],
 o 155 (.app 39 4 56) [t 149, t 154],
 o 156 (.faddr 0) [t 9],
 o 157 (.load 1 false) [t 156],
 o 158 (.faddr 1) [t 9],
 o 159 (.load 1 false) [t 158],
 m 160 13,
 o 161 (.faddr 3) [t 9],
 o 162 (.load 1 false) [t 161],
 o 163 (.build [.t (.str []), .t (.bool false), .snil, .t (.int .i64 0)] [(0, 1), (1, 1), (2, 1), (3, 1)]) [t 157, t 159, t 160, t 162],
 o 164 (.bsl 4) [t 163],
 o 165 (.app 39 4 56) [t 155, t 164],
 m 17 165]
def c10_95 : EC := .rg c10_95l true
@[simp] theorem c10_95e : Rg c10_95 c10_95l true := rgE _ _
@[simp] def c10_96l : List EO := [m 166 0,
 o 167 (.call 40) [t 166],
 m 168 17,
 o 169 (.call 40) [t 168],
 o 170 (.eqv true false [0]) [t 167, t 169]]
def c10_96 : EC := .rg c10_96l false
@[simp] theorem c10_96e : Rg c10_96 c10_96l false := rgE _ _
@[simp] def c10_97l : List EO := [o 6 .mv [b true]]
def c10_97 : EC := .rg c10_97l false
@[simp] theorem c10_97e : Rg c10_97 c10_97l false := rgE _ _
def c10_98 : EC := .sq c10_97 .rt
@[simp] theorem c10_98e : Sq c10_98 c10_97 .rt := sqE _ _
def c10_99 : EC := .cd (t 170) c10_98 .skip
@[simp] theorem c10_99e : Cd c10_99 (t 170) c10_98 .skip := cdE _ _ _
def c10_100 : EC := .sq c10_96 c10_99
@[simp] theorem c10_100e : Sq c10_100 c10_96 c10_99 := sqE _ _
@[simp] def c10_101l : List EO := [m 172 0,
 o 173 (.call 35) [t 172],
 m 174 1,
 o 175 (.call 34) [t 173, t 174],
 m 171 175,
 o 176 (.ext 0) [t 171],
 o 177 (.ext 1) [t 171],
 m 18 176,
 m 19 177]
def c10_101 : EC := .rg c10_101l false
@[simp] theorem c10_101e : Rg c10_101 c10_101l false := rgE _ _
@[simp] def c10_102l : List EO := [m 179 17,
 o 180 (.call 35) [t 179],
 m 181 1,
 o 182 (.call 34) [t 180, t 181],
 m 178 182,
 o 183 (.ext 0) [t 178],
 o 184 (.ext 1) [t 178],
 m 20 183,
 m 21 184]
def c10_102 : EC := .rg c10_102l false
@[simp] theorem c10_102e : Rg c10_102 c10_102l false := rgE _ _
@[simp] def c10_103l : List EO := [m 185 18,
 m 186 20,
 o 187 (.bin .eql) [t 185, t 186],
 m 188 187,
 y 189 188 .mv [t 19],
 y 190 188 .mv [t 21],
 y 191 188 (.bin .eql) [t 189, t 190],
 o 192 .pick [t 188, t 191, b false],
 m 6 192]
def c10_103 : EC := .rg c10_103l false
@[simp] theorem c10_103e : Rg c10_103 c10_103l false := rgE _ _
def c10_104 : EC := .sq c10_103 .rt
@[simp] theorem c10_104e : Sq c10_104 c10_103 .rt := sqE _ _
def c10_105 : EC := .sq c10_102 c10_104
@[simp] theorem c10_105e : Sq c10_105 c10_102 c10_104 := sqE _ _
def c10_106 : EC := .sq c10_101 c10_105
@[simp] theorem c10_106e : Sq c10_106 c10_101 c10_105 := sqE _ _
def c10_107 : EC := .sq c10_100 c10_106
@[simp] theorem c10_107e : Sq c10_107 c10_100 c10_106 := sqE _ _
def c10_108 : EC := .sq c10_95 c10_107
@[simp] theorem c10_108e : Sq c10_108 c10_95 c10_107 := sqE _ _
def c10_109 : EC := .sq c10_94 c10_108
@[simp] theorem c10_109e : Sq c10_109 c10_94 c10_108 := sqE _ _
def c10_110 : EC := .sq c10_89 c10_109
@[simp] theorem c10_110e : Sq c10_110 c10_89 c10_109 := sqE _ _
def c10_111 : EC := .sq c10_59 c10_110
@[simp] theorem c10_111e : Sq c10_111 c10_59 c10_110 := sqE _ _
def c10_112 : EC := .sq c10_58 c10_111
@[simp] theorem c10_112e : Sq c10_112 c10_58 c10_111 := sqE _ _
def c10_113 : EC := .sq c10_53 c10_112
@[simp] theorem c10_113e : Sq c10_113 c10_53 c10_112 := sqE _ _
def c10_114 : EC := .sq c10_37 c10_113
@[simp] theorem c10_114e : Sq c10_114 c10_37 c10_113 := sqE _ _
def c10_115 : EC := .sq c10_36 c10_114
@[simp] theorem c10_115e : Sq c10_115 c10_36 c10_114 := sqE _ _
def c10_116 : EC := .sq c10_35 c10_115
@[simp] theorem c10_116e : Sq c10_116 c10_35 c10_115 := sqE _ _
def c10_117 : EC := .sq c10_10 c10_116
@[simp] theorem c10_117e : Sq c10_117 c10_10 c10_116 := sqE _ _
def c10_118 : EC := .sq c10_5 c10_117
@[simp] theorem c10_118e : Sq c10_118 c10_5 c10_117 := sqE _ _
def c10_119 : EC := .sq c10_0 c10_118
@[simp] theorem c10_119e : Sq c10_119 c10_0 c10_118 := sqE _ _
def c_tallystonelaw33_CheckRenames_10 : EC := c10_119
theorem k_10 : ecF Tryd.prog 10 = some (193, c_tallystonelaw33_CheckRenames_10, [.tm 6]) := by kernel_rfl

/-- tallystone/tallystonelaw33.CheckRenames, with slices that grow in boxes -/
@[simp] def b10_0l : List EO := [o 6 .mv [b false]]
def b10_0 : EC := .rg b10_0l false
@[simp] theorem b10_0e : Rg b10_0 b10_0l false := rgE _ _
@[simp] def b10_1l : List EO := [o 22 (.call 16) [],
 o 23 (.un .not) [t 22]]
def b10_1 : EC := .rg b10_1l false
@[simp] theorem b10_1e : Rg b10_1 b10_1l false := rgE _ _
@[simp] def b10_2l : List EO := [o 6 .mv [b false]]
def b10_2 : EC := .rg b10_2l false
@[simp] theorem b10_2e : Rg b10_2 b10_2l false := rgE _ _
def b10_3 : EC := .sq b10_2 .rt
@[simp] theorem b10_3e : Sq b10_3 b10_2 .rt := sqE _ _
def b10_4 : EC := .cd (t 23) b10_3 .skip
@[simp] theorem b10_4e : Cd b10_4 (t 23) b10_3 .skip := cdE _ _ _
def b10_5 : EC := .sq b10_1 b10_4
@[simp] theorem b10_5e : Sq b10_5 b10_1 b10_4 := sqE _ _
@[simp] def b10_6l : List EO := [m 24 0,
 m 25 1,
 o 26 (.call 33) [t 24, t 25],
 o 27 (.un .not) [t 26],
 m 28 27,
 n 29 28 .mv [t 0],
 n 30 28 .lenL [t 29],
 n 31 28 (.bin .eql) [t 30, i 0],
 o 32 .pick [t 28, b true, t 31],
 m 33 32,
 n 34 33 .mv [t 2],
 n 35 33 .lenL [t 34],
 n 36 33 (.bin .gtr) [t 35, i 40],
 o 37 .pick [t 33, b true, t 36]]
def b10_6 : EC := .rg b10_6l false
@[simp] theorem b10_6e : Rg b10_6 b10_6l false := rgE _ _
@[simp] def b10_7l : List EO := [o 6 .mv [b true]]
def b10_7 : EC := .rg b10_7l false
@[simp] theorem b10_7e : Rg b10_7 b10_7l false := rgE _ _
def b10_8 : EC := .sq b10_7 .rt
@[simp] theorem b10_8e : Sq b10_8 b10_7 .rt := sqE _ _
def b10_9 : EC := .cd (t 37) b10_8 .skip
@[simp] theorem b10_9e : Cd b10_9 (t 37) b10_8 .skip := cdE _ _ _
def b10_10 : EC := .sq b10_6 b10_9
@[simp] theorem b10_10e : Sq b10_10 b10_6 b10_9 := sqE _ _
@[simp] def b10_11l : List EO := [o 7 .mv [i 0]]
def b10_11 : EC := .rg b10_11l false
@[simp] theorem b10_11e : Rg b10_11 b10_11l false := rgE _ _
@[simp] def b10_12l : List EO := [m 38 7,
 m 39 2,
 o 40 .lenL [t 39],
 o 41 (.bin .lss) [t 38, t 40]]
def b10_12 : EC := .rg b10_12l false
@[simp] theorem b10_12e : Rg b10_12 b10_12l false := rgE _ _
def b10_13 : EC := .cd (t 41) .skip (.ex 0)
@[simp] theorem b10_13e : Cd b10_13 (t 41) .skip (.ex 0) := cdE _ _ _
def b10_14 : EC := .sq b10_12 b10_13
@[simp] theorem b10_14e : Sq b10_14 b10_12 b10_13 := sqE _ _
@[simp] def b10_15l : List EO := [o 8 .mv [i 0]]
def b10_15 : EC := .rg b10_15l false
@[simp] theorem b10_15e : Rg b10_15 b10_15l false := rgE _ _
@[simp] def b10_16l : List EO := [m 44 8,
 m 45 7,
 o 46 (.bin .lss) [t 44, t 45]]
def b10_16 : EC := .rg b10_16l false
@[simp] theorem b10_16e : Rg b10_16 b10_16l false := rgE _ _
def b10_17 : EC := .cd (t 46) .skip (.ex 2)
@[simp] theorem b10_17e : Cd b10_17 (t 46) .skip (.ex 2) := cdE _ _ _
def b10_18 : EC := .sq b10_16 b10_17
@[simp] theorem b10_18e : Sq b10_18 b10_16 b10_17 := sqE _ _
@[simp] def b10_19l : List EO := [m 49 2,
 m 50 7,
 o 51 (.iaS 1) [t 49, t 50],
 o 52 (.load 1 false) [t 51],
 m 53 2,
 m 54 8,
 o 55 (.iaS 1) [t 53, t 54],
 o 56 (.load 1 false) [t 55],
 o 57 (.bin .eql) [t 52, t 56]]
def b10_19 : EC := .rg b10_19l true
@[simp] theorem b10_19e : Rg b10_19 b10_19l true := rgE _ _
@[simp] def b10_20l : List EO := [o 6 .mv [b true]]
def b10_20 : EC := .rg b10_20l false
@[simp] theorem b10_20e : Rg b10_20 b10_20l false := rgE _ _
def b10_21 : EC := .sq b10_20 .rt
@[simp] theorem b10_21e : Sq b10_21 b10_20 .rt := sqE _ _
def b10_22 : EC := .cd (t 57) b10_21 .skip
@[simp] theorem b10_22e : Cd b10_22 (t 57) b10_21 .skip := cdE _ _ _
def b10_23 : EC := .sq b10_19 b10_22
@[simp] theorem b10_23e : Sq b10_23 b10_19 b10_22 := sqE _ _
def b10_24 : EC := .bk 3 b10_23
@[simp] theorem b10_24e : Bk b10_24 3 b10_23 := bkE _ _
@[simp] def b10_25l : List EO := [m 47 8,
 o 48 (.bin .add) [t 47, i 1],
 m 8 48]
def b10_25 : EC := .rg b10_25l false
@[simp] theorem b10_25e : Rg b10_25 b10_25l false := rgE _ _
def b10_26 : EC := .sq b10_24 b10_25
@[simp] theorem b10_26e : Sq b10_26 b10_24 b10_25 := sqE _ _
def b10_27 : EC := .sq b10_18 b10_26
@[simp] theorem b10_27e : Sq b10_27 b10_18 b10_26 := sqE _ _
def b10_28 : EC := .bk 2 (.lp b10_27)
@[simp] theorem b10_28e : Bk b10_28 2 (.lp b10_27) := bkE _ _
def b10_29 : EC := .sq b10_15 b10_28
@[simp] theorem b10_29e : Sq b10_29 b10_15 b10_28 := sqE _ _
def b10_30 : EC := .bk 1 b10_29
@[simp] theorem b10_30e : Bk b10_30 1 b10_29 := bkE _ _
@[simp] def b10_31l : List EO := [m 42 7,
 o 43 (.bin .add) [t 42, i 1],
 m 7 43]
def b10_31 : EC := .rg b10_31l false
@[simp] theorem b10_31e : Rg b10_31 b10_31l false := rgE _ _
def b10_32 : EC := .sq b10_30 b10_31
@[simp] theorem b10_32e : Sq b10_32 b10_30 b10_31 := sqE _ _
def b10_33 : EC := .sq b10_14 b10_32
@[simp] theorem b10_33e : Sq b10_33 b10_14 b10_32 := sqE _ _
def b10_34 : EC := .bk 0 (.lp b10_33)
@[simp] theorem b10_34e : Bk b10_34 0 (.lp b10_33) := bkE _ _
def b10_35 : EC := .sq b10_11 b10_34
@[simp] theorem b10_35e : Sq b10_35 b10_11 b10_34 := sqE _ _
@[simp] def b10_36l : List EO := [m 58 0,
 m 59 0,
 o 60 .lenL [t 59],
 o 61 (.bin .sub) [t 60, i 1],
 o 62 (.iaS 4) [t 58, t 61],
 o 63 (.load 4 true) [t 62],
 o 9 (.alloc [.t (.str []), .t (.bool false), .snil, .t (.int .i64 0)]) [],
 u (.store 4) [t 9, t 63]]
def b10_36 : EC := .rg b10_36l false
@[simp] theorem b10_36e : Rg b10_36 b10_36l false := rgE _ _
@[simp] def b10_37l : List EO := [o 10 .mv [c (.snil)]]
def b10_37 : EC := .rg b10_37l false
@[simp] theorem b10_37e : Rg b10_37 b10_37l false := rgE _ _
@[simp] def b10_38l : List EO := [o 11 .mv [i 0]]
def b10_38 : EC := .rg b10_38l false
@[simp] theorem b10_38e : Rg b10_38 b10_38l false := rgE _ _
@[simp] def b10_39l : List EO := [m 64 11,
 o 65 (.faddr 2) [t 9],
 o 66 (.load 1 false) [t 65],
 o 67 .lenL [t 66],
 o 68 (.bin .lss) [t 64, t 67]]
def b10_39 : EC := .rg b10_39l false
@[simp] theorem b10_39e : Rg b10_39 b10_39l false := rgE _ _
def b10_40 : EC := .cd (t 68) .skip (.ex 4)
@[simp] theorem b10_40e : Cd b10_40 (t 68) .skip (.ex 4) := cdE _ _ _
def b10_41 : EC := .sq b10_39 b10_40
@[simp] theorem b10_41e : Sq b10_41 b10_39 b10_40 := sqE _ _
@[simp] def b10_42l : List EO := [o 71 (.faddr 2) [t 9],
 o 72 (.load 1 false) [t 71],
 m 73 11,
 o 74 (.iaS 9) [t 72, t 73],
 o 75 (.load 9 true) [t 74],
 o 12 (.alloc [.t (.int .i64 0), .t (.int .i64 0), .t (.str []), .t (.int .i64 0), .t (.int .i64 0), .t (.int .i64 0), .t (.int .i64 0), .t (.str []), .snil]) [],
 u (.store 9) [t 12, t 75]]
def b10_42 : EC := .rg b10_42l false
@[simp] theorem b10_42e : Rg b10_42 b10_42l false := rgE _ _
@[simp] def b10_43l : List EO := [o 76 (.faddr 0) [t 12],
 o 77 (.load 1 false) [t 76],
 o 78 (.bin .eql) [t 77, i 1],
 m 79 78,
 y 80 79 .mv [t 10],
 y 81 79 (.faddr 2) [t 12],
 y 82 79 (.load 1 false) [t 81],
 y 83 79 (.call 37) [t 80, t 82],
 y 84 79 (.un .not) [t 83],
 o 85 .pick [t 79, t 84, b false]]
def b10_43 : EC := .rg b10_43l false
@[simp] theorem b10_43e : Rg b10_43 b10_43l false := rgE _ _
@[simp] def b10_44l : List EO := [m 86 10,
 o 87 (.faddr 2) [t 12],
 o 88 (.load 1 false) [t 87],
 o 89 (.bsl 1) [t 88],
 o 90 (.appB 9 1 16) [t 86, t 89],
 m 10 90]
def b10_44 : EC := .rg b10_44l false
@[simp] theorem b10_44e : Rg b10_44 b10_44l false := rgE _ _
def b10_45 : EC := .cd (t 85) b10_44 .skip
@[simp] theorem b10_45e : Cd b10_45 (t 85) b10_44 .skip := cdE _ _ _
def b10_46 : EC := .sq b10_43 b10_45
@[simp] theorem b10_46e : Sq b10_46 b10_43 b10_45 := sqE _ _
def b10_47 : EC := .sq b10_42 b10_46
@[simp] theorem b10_47e : Sq b10_47 b10_42 b10_46 := sqE _ _
def b10_48 : EC := .bk 5 b10_47
@[simp] theorem b10_48e : Bk b10_48 5 b10_47 := bkE _ _
@[simp] def b10_49l : List EO := [m 69 11,
 o 70 (.bin .add) [t 69, i 1],
 m 11 70]
def b10_49 : EC := .rg b10_49l false
@[simp] theorem b10_49e : Rg b10_49 b10_49l false := rgE _ _
def b10_50 : EC := .sq b10_48 b10_49
@[simp] theorem b10_50e : Sq b10_50 b10_48 b10_49 := sqE _ _
def b10_51 : EC := .sq b10_41 b10_50
@[simp] theorem b10_51e : Sq b10_51 b10_41 b10_50 := sqE _ _
def b10_52 : EC := .bk 4 (.lp b10_51)
@[simp] theorem b10_52e : Bk b10_52 4 (.lp b10_51) := bkE _ _
def b10_53 : EC := .sq b10_38 b10_52
@[simp] theorem b10_53e : Sq b10_53 b10_38 b10_52 := sqE _ _
@[simp] def b10_54l : List EO := [m 91 2,
 o 92 .lenL [t 91],
 m 93 10,
 o 94 .lenL [t 93],
 o 95 (.bin .lss) [t 92, t 94]]
def b10_54 : EC := .rg b10_54l false
@[simp] theorem b10_54e : Rg b10_54 b10_54l false := rgE _ _
@[simp] def b10_55l : List EO := [o 6 .mv [b true]]
def b10_55 : EC := .rg b10_55l false
@[simp] theorem b10_55e : Rg b10_55 b10_55l false := rgE _ _
def b10_56 : EC := .sq b10_55 .rt
@[simp] theorem b10_56e : Sq b10_56 b10_55 .rt := sqE _ _
def b10_57 : EC := .cd (t 95) b10_56 .skip
@[simp] theorem b10_57e : Cd b10_57 (t 95) b10_56 .skip := cdE _ _ _
def b10_58 : EC := .sq b10_54 b10_57
@[simp] theorem b10_58e : Sq b10_58 b10_54 b10_57 := sqE _ _
@[simp] def b10_59l : List EO := [o 13 .mv [c (.snil)]]
def b10_59 : EC := .rg b10_59l false
@[simp] theorem b10_59e : Rg b10_59 b10_59l false := rgE _ _
@[simp] def b10_60l : List EO := [o 14 .mv [i 0]]
def b10_60 : EC := .rg b10_60l false
@[simp] theorem b10_60e : Rg b10_60 b10_60l false := rgE _ _
@[simp] def b10_61l : List EO := [m 96 14,
 o 97 (.faddr 2) [t 9],
 o 98 (.load 1 false) [t 97],
 o 99 .lenL [t 98],
 o 100 (.bin .lss) [t 96, t 99]]
def b10_61 : EC := .rg b10_61l false
@[simp] theorem b10_61e : Rg b10_61 b10_61l false := rgE _ _
def b10_62 : EC := .cd (t 100) .skip (.ex 6)
@[simp] theorem b10_62e : Cd b10_62 (t 100) .skip (.ex 6) := cdE _ _ _
def b10_63 : EC := .sq b10_61 b10_62
@[simp] theorem b10_63e : Sq b10_63 b10_61 b10_62 := sqE _ _
@[simp] def b10_64l : List EO := [o 103 (.faddr 2) [t 9],
 o 104 (.load 1 false) [t 103],
 m 105 14,
 o 106 (.iaS 9) [t 104, t 105],
 o 107 (.load 9 true) [t 106],
 o 15 (.alloc [.t (.int .i64 0), .t (.int .i64 0), .t (.str []), .t (.int .i64 0), .t (.int .i64 0), .t (.int .i64 0), .t (.int .i64 0), .t (.str []), .snil]) [],
 u (.store 9) [t 15, t 107]]
def b10_64 : EC := .rg b10_64l false
@[simp] theorem b10_64e : Rg b10_64 b10_64l false := rgE _ _
@[simp] def b10_65l : List EO := [o 108 (.faddr 3) [t 15],
 o 109 (.load 6 true) [t 108],
 m 110 10,
 m 111 2,
 o 112 (.call 38) [t 109, t 110, t 111],
 o 113 (.faddr 3) [t 15],
 u (.store 6) [t 113, t 112]]
def b10_65 : EC := .rg b10_65l false
@[simp] theorem b10_65e : Rg b10_65 b10_65l false := rgE _ _
@[simp] def b10_66l : List EO := [o 16 .mv [i 0]]
def b10_66 : EC := .rg b10_66l false
@[simp] theorem b10_66e : Rg b10_66 b10_66l false := rgE _ _
@[simp] def b10_67l : List EO := [m 114 16,
 m 115 10,
 o 116 .lenL [t 115],
 o 117 (.bin .lss) [t 114, t 116],
 m 118 117,
 y 119 118 (.faddr 0) [t 15],
 y 120 118 (.load 1 false) [t 119],
 y 121 118 (.bin .eql) [t 120, i 1],
 o 122 .pick [t 118, t 121, b false]]
def b10_67 : EC := .rg b10_67l false
@[simp] theorem b10_67e : Rg b10_67 b10_67l false := rgE _ _
def b10_68 : EC := .cd (t 122) .skip (.ex 8)
@[simp] theorem b10_68e : Cd b10_68 (t 122) .skip (.ex 8) := cdE _ _ _
def b10_69 : EC := .sq b10_67 b10_68
@[simp] theorem b10_69e : Sq b10_69 b10_67 b10_68 := sqE _ _
@[simp] def b10_70l : List EO := [o 125 (.faddr 2) [t 9],
 o 126 (.load 1 false) [t 125],
 m 127 14,
 o 128 (.iaS 9) [t 126, t 127],
 o 129 (.faddr 2) [t 128],
 o 130 (.load 1 false) [t 129],
 m 131 10,
 m 132 16,
 o 133 (.iaS 1) [t 131, t 132],
 o 134 (.load 1 false) [t 133],
 o 135 (.bin .eql) [t 130, t 134]]
def b10_70 : EC := .rg b10_70l true
@[simp] theorem b10_70e : Rg b10_70 b10_70l true := rgE _ _
@[simp] def b10_71l : List EO := [m 136 2,
 m 137 16,
 o 138 (.iaS 1) [t 136, t 137],
 o 139 (.load 1 false) [t 138],
 o 140 (.faddr 2) [t 15],
 u (.store 1) [t 140, t 139]]
def b10_71 : EC := .rg b10_71l false
@[simp] theorem b10_71e : Rg b10_71 b10_71l false := rgE _ _
def b10_72 : EC := .cd (t 135) b10_71 .skip
@[simp] theorem b10_72e : Cd b10_72 (t 135) b10_71 .skip := cdE _ _ _
def b10_73 : EC := .sq b10_70 b10_72
@[simp] theorem b10_73e : Sq b10_73 b10_70 b10_72 := sqE _ _
def b10_74 : EC := .bk 9 b10_73
@[simp] theorem b10_74e : Bk b10_74 9 b10_73 := bkE _ _
@[simp] def b10_75l : List EO := [m 123 16,
 o 124 (.bin .add) [t 123, i 1],
 m 16 124]
def b10_75 : EC := .rg b10_75l false
@[simp] theorem b10_75e : Rg b10_75 b10_75l false := rgE _ _
def b10_76 : EC := .sq b10_74 b10_75
@[simp] theorem b10_76e : Sq b10_76 b10_74 b10_75 := sqE _ _
def b10_77 : EC := .sq b10_69 b10_76
@[simp] theorem b10_77e : Sq b10_77 b10_69 b10_76 := sqE _ _
def b10_78 : EC := .bk 8 (.lp b10_77)
@[simp] theorem b10_78e : Bk b10_78 8 (.lp b10_77) := bkE _ _
def b10_79 : EC := .sq b10_66 b10_78
@[simp] theorem b10_79e : Sq b10_79 b10_66 b10_78 := sqE _ _
@[simp] def b10_80l : List EO := [m 141 13,
 o 142 (.load 9 true) [t 15],
 o 143 (.bsl 9) [t 142],
 o 144 (.appB 36 9 104) [t 141, t 143],
 m 13 144]
def b10_80 : EC := .rg b10_80l false
@[simp] theorem b10_80e : Rg b10_80 b10_80l false := rgE _ _
def b10_81 : EC := .sq b10_79 b10_80
@[simp] theorem b10_81e : Sq b10_81 b10_79 b10_80 := sqE _ _
def b10_82 : EC := .sq b10_65 b10_81
@[simp] theorem b10_82e : Sq b10_82 b10_65 b10_81 := sqE _ _
def b10_83 : EC := .sq b10_64 b10_82
@[simp] theorem b10_83e : Sq b10_83 b10_64 b10_82 := sqE _ _
def b10_84 : EC := .bk 7 b10_83
@[simp] theorem b10_84e : Bk b10_84 7 b10_83 := bkE _ _
@[simp] def b10_85l : List EO := [m 101 14,
 o 102 (.bin .add) [t 101, i 1],
 m 14 102]
def b10_85 : EC := .rg b10_85l false
@[simp] theorem b10_85e : Rg b10_85 b10_85l false := rgE _ _
def b10_86 : EC := .sq b10_84 b10_85
@[simp] theorem b10_86e : Sq b10_86 b10_84 b10_85 := sqE _ _
def b10_87 : EC := .sq b10_63 b10_86
@[simp] theorem b10_87e : Sq b10_87 b10_63 b10_86 := sqE _ _
def b10_88 : EC := .bk 6 (.lp b10_87)
@[simp] theorem b10_88e : Bk b10_88 6 (.lp b10_87) := bkE _ _
def b10_89 : EC := .sq b10_60 b10_88
@[simp] theorem b10_89e : Sq b10_89 b10_60 b10_88 := sqE _ _
@[simp] def b10_90l : List EO := [o 145 (.load 4 true) [t 9],
 m 146 10,
 m 147 2,
 o 148 (.call 39) [t 145, t 146, t 147]]
def b10_90 : EC := .rg b10_90l false
@[simp] theorem b10_90e : Rg b10_90 b10_90l false := rgE _ _
@[simp] def b10_91l : List EO := [o 6 .mv [b true]]
def b10_91 : EC := .rg b10_91l false
@[simp] theorem b10_91e : Rg b10_91 b10_91l false := rgE _ _
def b10_92 : EC := .sq b10_91 .rt
@[simp] theorem b10_92e : Sq b10_92 b10_91 .rt := sqE _ _
def b10_93 : EC := .cd (t 148) b10_92 .skip
@[simp] theorem b10_93e : Cd b10_93 (t 148) b10_92 .skip := cdE _ _ _
def b10_94 : EC := .sq b10_90 b10_93
@[simp] theorem b10_94e : Sq b10_94 b10_90 b10_93 := sqE _ _
@[simp] def b10_95l : List EO := [o 149 (.bsl 4) []]
def b10_95 : EC := .rg b10_95l true
@[simp] theorem b10_95e : Rg b10_95 b10_95l true := rgE _ _
@[simp] def b10_96l : List EO := [m 150 0]
def b10_96 : EC := .rg b10_96l true
@[simp] theorem b10_96e : Rg b10_96 b10_96l true := rgE _ _
@[simp] def b10_97l : List EO := [m 151 0]
def b10_97 : EC := .rg b10_97l true
@[simp] theorem b10_97e : Rg b10_97 b10_97l true := rgE _ _
@[simp] def b10_98l : List EO := [o 152 .lenL [t 151]]
def b10_98 : EC := .rg b10_98l true
@[simp] theorem b10_98e : Rg b10_98 b10_98l true := rgE _ _
@[simp] def b10_99l : List EO := [o 153 (.bin .sub) [t 152, i 1]]
def b10_99 : EC := .rg b10_99l true
@[simp] theorem b10_99e : Rg b10_99 b10_99l true := rgE _ _
@[simp] def b10_100l : List EO := [o 154 (.slL 4 false true false) [t 150, t 153]]
def b10_100 : EC := .rg b10_100l true
@[simp] theorem b10_100e : Rg b10_100 b10_100l true := rgE _ _
@[simp] def b10_101l : List EO := [o 156 (.faddr 0) [t 9]]
def b10_101 : EC := .rg b10_101l true
@[simp] theorem b10_101e : Rg b10_101 b10_101l true := rgE _ _
@[simp] def b10_102l : List EO := [o 158 (.faddr 1) [t 9]]
def b10_102 : EC := .rg b10_102l true
@[simp] theorem b10_102e : Rg b10_102 b10_102l true := rgE _ _
@[simp] def b10_103l : List EO := [m 160 13]
def b10_103 : EC := .rg b10_103l true
@[simp] theorem b10_103e : Rg b10_103 b10_103l true := rgE _ _
@[simp] def b10_104l : List EO := [o 161 (.faddr 3) [t 9]]
def b10_104 : EC := .rg b10_104l true
@[simp] theorem b10_104e : Rg b10_104 b10_104l true := rgE _ _
@[simp] def b10_105l : List EO := [o 155 (.appB 39 4 56) [t 149, t 154]]
def b10_105 : EC := .rg b10_105l true
@[simp] theorem b10_105e : Rg b10_105 b10_105l true := rgE _ _
@[simp] def b10_106l : List EO := [o 157 (.load 1 false) [t 156]]
def b10_106 : EC := .rg b10_106l true
@[simp] theorem b10_106e : Rg b10_106 b10_106l true := rgE _ _
@[simp] def b10_107l : List EO := [o 159 (.load 1 false) [t 158]]
def b10_107 : EC := .rg b10_107l true
@[simp] theorem b10_107e : Rg b10_107 b10_107l true := rgE _ _
@[simp] def b10_108l : List EO := [o 162 (.load 1 false) [t 161]]
def b10_108 : EC := .rg b10_108l true
@[simp] theorem b10_108e : Rg b10_108 b10_108l true := rgE _ _
@[simp] def b10_109l : List EO := [o 163 (.build [.t (.str []), .t (.bool false), .snil, .t (.int .i64 0)] [(0, 1), (1, 1), (2, 1), (3, 1)]) [t 157, t 159, t 160, t 162]]
def b10_109 : EC := .rg b10_109l true
@[simp] theorem b10_109e : Rg b10_109 b10_109l true := rgE _ _
@[simp] def b10_110l : List EO := [o 164 (.bsl 4) [t 163]]
def b10_110 : EC := .rg b10_110l true
@[simp] theorem b10_110e : Rg b10_110 b10_110l true := rgE _ _
@[simp] def b10_111l : List EO := [o 165 (.appB 39 4 56) [t 155, t 164]]
def b10_111 : EC := .rg b10_111l true
@[simp] theorem b10_111e : Rg b10_111 b10_111l true := rgE _ _
@[simp] def b10_112l : List EO := [m 17 165]
def b10_112 : EC := .rg b10_112l true
@[simp] theorem b10_112e : Rg b10_112 b10_112l true := rgE _ _
def b10_113 : EC := .sq b10_112 .skip
@[simp] theorem b10_113e : Sq b10_113 b10_112 .skip := sqE _ _
def b10_114 : EC := .sq b10_111 b10_113
@[simp] theorem b10_114e : Sq b10_114 b10_111 b10_113 := sqE _ _
def b10_115 : EC := .sq b10_110 b10_114
@[simp] theorem b10_115e : Sq b10_115 b10_110 b10_114 := sqE _ _
def b10_116 : EC := .sq b10_109 b10_115
@[simp] theorem b10_116e : Sq b10_116 b10_109 b10_115 := sqE _ _
def b10_117 : EC := .sq b10_108 b10_116
@[simp] theorem b10_117e : Sq b10_117 b10_108 b10_116 := sqE _ _
def b10_118 : EC := .sq b10_107 b10_117
@[simp] theorem b10_118e : Sq b10_118 b10_107 b10_117 := sqE _ _
def b10_119 : EC := .sq b10_106 b10_118
@[simp] theorem b10_119e : Sq b10_119 b10_106 b10_118 := sqE _ _
def b10_120 : EC := .sq b10_105 b10_119
@[simp] theorem b10_120e : Sq b10_120 b10_105 b10_119 := sqE _ _
@[simp] def b10_121l : List EO := [o 157 (.load 1 false) [t 156]]
def b10_121 : EC := .rg b10_121l true
@[simp] theorem b10_121e : Rg b10_121 b10_121l true := rgE _ _
@[simp] def b10_122l : List EO := [o 155 (.appB 39 4 56) [t 149, t 154]]
def b10_122 : EC := .rg b10_122l true
@[simp] theorem b10_122e : Rg b10_122 b10_122l true := rgE _ _
@[simp] def b10_123l : List EO := [o 159 (.load 1 false) [t 158]]
def b10_123 : EC := .rg b10_123l true
@[simp] theorem b10_123e : Rg b10_123 b10_123l true := rgE _ _
@[simp] def b10_124l : List EO := [o 162 (.load 1 false) [t 161]]
def b10_124 : EC := .rg b10_124l true
@[simp] theorem b10_124e : Rg b10_124 b10_124l true := rgE _ _
@[simp] def b10_125l : List EO := [o 163 (.build [.t (.str []), .t (.bool false), .snil, .t (.int .i64 0)] [(0, 1), (1, 1), (2, 1), (3, 1)]) [t 157, t 159, t 160, t 162]]
def b10_125 : EC := .rg b10_125l true
@[simp] theorem b10_125e : Rg b10_125 b10_125l true := rgE _ _
@[simp] def b10_126l : List EO := [o 164 (.bsl 4) [t 163]]
def b10_126 : EC := .rg b10_126l true
@[simp] theorem b10_126e : Rg b10_126 b10_126l true := rgE _ _
@[simp] def b10_127l : List EO := [o 165 (.appB 39 4 56) [t 155, t 164]]
def b10_127 : EC := .rg b10_127l true
@[simp] theorem b10_127e : Rg b10_127 b10_127l true := rgE _ _
@[simp] def b10_128l : List EO := [m 17 165]
def b10_128 : EC := .rg b10_128l true
@[simp] theorem b10_128e : Rg b10_128 b10_128l true := rgE _ _
def b10_129 : EC := .sq b10_128 .skip
@[simp] theorem b10_129e : Sq b10_129 b10_128 .skip := sqE _ _
def b10_130 : EC := .sq b10_127 b10_129
@[simp] theorem b10_130e : Sq b10_130 b10_127 b10_129 := sqE _ _
def b10_131 : EC := .sq b10_126 b10_130
@[simp] theorem b10_131e : Sq b10_131 b10_126 b10_130 := sqE _ _
def b10_132 : EC := .sq b10_125 b10_131
@[simp] theorem b10_132e : Sq b10_132 b10_125 b10_131 := sqE _ _
def b10_133 : EC := .sq b10_124 b10_132
@[simp] theorem b10_133e : Sq b10_133 b10_124 b10_132 := sqE _ _
def b10_134 : EC := .sq b10_123 b10_133
@[simp] theorem b10_134e : Sq b10_134 b10_123 b10_133 := sqE _ _
def b10_135 : EC := .sq b10_122 b10_134
@[simp] theorem b10_135e : Sq b10_135 b10_122 b10_134 := sqE _ _
@[simp] def b10_136l : List EO := [o 159 (.load 1 false) [t 158]]
def b10_136 : EC := .rg b10_136l true
@[simp] theorem b10_136e : Rg b10_136 b10_136l true := rgE _ _
@[simp] def b10_137l : List EO := [o 155 (.appB 39 4 56) [t 149, t 154]]
def b10_137 : EC := .rg b10_137l true
@[simp] theorem b10_137e : Rg b10_137 b10_137l true := rgE _ _
@[simp] def b10_138l : List EO := [o 162 (.load 1 false) [t 161]]
def b10_138 : EC := .rg b10_138l true
@[simp] theorem b10_138e : Rg b10_138 b10_138l true := rgE _ _
@[simp] def b10_139l : List EO := [o 163 (.build [.t (.str []), .t (.bool false), .snil, .t (.int .i64 0)] [(0, 1), (1, 1), (2, 1), (3, 1)]) [t 157, t 159, t 160, t 162]]
def b10_139 : EC := .rg b10_139l true
@[simp] theorem b10_139e : Rg b10_139 b10_139l true := rgE _ _
@[simp] def b10_140l : List EO := [o 164 (.bsl 4) [t 163]]
def b10_140 : EC := .rg b10_140l true
@[simp] theorem b10_140e : Rg b10_140 b10_140l true := rgE _ _
@[simp] def b10_141l : List EO := [o 165 (.appB 39 4 56) [t 155, t 164]]
def b10_141 : EC := .rg b10_141l true
@[simp] theorem b10_141e : Rg b10_141 b10_141l true := rgE _ _
@[simp] def b10_142l : List EO := [m 17 165]
def b10_142 : EC := .rg b10_142l true
@[simp] theorem b10_142e : Rg b10_142 b10_142l true := rgE _ _
def b10_143 : EC := .sq b10_142 .skip
@[simp] theorem b10_143e : Sq b10_143 b10_142 .skip := sqE _ _
def b10_144 : EC := .sq b10_141 b10_143
@[simp] theorem b10_144e : Sq b10_144 b10_141 b10_143 := sqE _ _
def b10_145 : EC := .sq b10_140 b10_144
@[simp] theorem b10_145e : Sq b10_145 b10_140 b10_144 := sqE _ _
def b10_146 : EC := .sq b10_139 b10_145
@[simp] theorem b10_146e : Sq b10_146 b10_139 b10_145 := sqE _ _
def b10_147 : EC := .sq b10_138 b10_146
@[simp] theorem b10_147e : Sq b10_147 b10_138 b10_146 := sqE _ _
def b10_148 : EC := .sq b10_137 b10_147
@[simp] theorem b10_148e : Sq b10_148 b10_137 b10_147 := sqE _ _
@[simp] def b10_149l : List EO := [o 162 (.load 1 false) [t 161]]
def b10_149 : EC := .rg b10_149l true
@[simp] theorem b10_149e : Rg b10_149 b10_149l true := rgE _ _
@[simp] def b10_150l : List EO := [o 155 (.appB 39 4 56) [t 149, t 154]]
def b10_150 : EC := .rg b10_150l true
@[simp] theorem b10_150e : Rg b10_150 b10_150l true := rgE _ _
@[simp] def b10_151l : List EO := [o 163 (.build [.t (.str []), .t (.bool false), .snil, .t (.int .i64 0)] [(0, 1), (1, 1), (2, 1), (3, 1)]) [t 157, t 159, t 160, t 162]]
def b10_151 : EC := .rg b10_151l true
@[simp] theorem b10_151e : Rg b10_151 b10_151l true := rgE _ _
@[simp] def b10_152l : List EO := [o 164 (.bsl 4) [t 163]]
def b10_152 : EC := .rg b10_152l true
@[simp] theorem b10_152e : Rg b10_152 b10_152l true := rgE _ _
@[simp] def b10_153l : List EO := [o 165 (.appB 39 4 56) [t 155, t 164]]
def b10_153 : EC := .rg b10_153l true
@[simp] theorem b10_153e : Rg b10_153 b10_153l true := rgE _ _
@[simp] def b10_154l : List EO := [m 17 165]
def b10_154 : EC := .rg b10_154l true
@[simp] theorem b10_154e : Rg b10_154 b10_154l true := rgE _ _
def b10_155 : EC := .sq b10_154 .skip
@[simp] theorem b10_155e : Sq b10_155 b10_154 .skip := sqE _ _
def b10_156 : EC := .sq b10_153 b10_155
@[simp] theorem b10_156e : Sq b10_156 b10_153 b10_155 := sqE _ _
def b10_157 : EC := .sq b10_152 b10_156
@[simp] theorem b10_157e : Sq b10_157 b10_152 b10_156 := sqE _ _
def b10_158 : EC := .sq b10_151 b10_157
@[simp] theorem b10_158e : Sq b10_158 b10_151 b10_157 := sqE _ _
def b10_159 : EC := .sq b10_150 b10_158
@[simp] theorem b10_159e : Sq b10_159 b10_150 b10_158 := sqE _ _
def b10_160 : EC := .sq b10_149 b10_159
@[simp] theorem b10_160e : Sq b10_160 b10_149 b10_159 := sqE _ _
def b10_161 : EC := .al b10_148 b10_160
@[simp] theorem b10_161e : Al b10_161 b10_148 b10_160 := alE _ _
def b10_162 : EC := .sq b10_136 b10_161
@[simp] theorem b10_162e : Sq b10_162 b10_136 b10_161 := sqE _ _
@[simp] def b10_163l : List EO := [o 162 (.load 1 false) [t 161]]
def b10_163 : EC := .rg b10_163l true
@[simp] theorem b10_163e : Rg b10_163 b10_163l true := rgE _ _
@[simp] def b10_164l : List EO := [o 155 (.appB 39 4 56) [t 149, t 154]]
def b10_164 : EC := .rg b10_164l true
@[simp] theorem b10_164e : Rg b10_164 b10_164l true := rgE _ _
@[simp] def b10_165l : List EO := [o 159 (.load 1 false) [t 158]]
def b10_165 : EC := .rg b10_165l true
@[simp] theorem b10_165e : Rg b10_165 b10_165l true := rgE _ _
@[simp] def b10_166l : List EO := [o 163 (.build [.t (.str []), .t (.bool false), .snil, .t (.int .i64 0)] [(0, 1), (1, 1), (2, 1), (3, 1)]) [t 157, t 159, t 160, t 162]]
def b10_166 : EC := .rg b10_166l true
@[simp] theorem b10_166e : Rg b10_166 b10_166l true := rgE _ _
@[simp] def b10_167l : List EO := [o 164 (.bsl 4) [t 163]]
def b10_167 : EC := .rg b10_167l true
@[simp] theorem b10_167e : Rg b10_167 b10_167l true := rgE _ _
@[simp] def b10_168l : List EO := [o 165 (.appB 39 4 56) [t 155, t 164]]
def b10_168 : EC := .rg b10_168l true
@[simp] theorem b10_168e : Rg b10_168 b10_168l true := rgE _ _
@[simp] def b10_169l : List EO := [m 17 165]
def b10_169 : EC := .rg b10_169l true
@[simp] theorem b10_169e : Rg b10_169 b10_169l true := rgE _ _
def b10_170 : EC := .sq b10_169 .skip
@[simp] theorem b10_170e : Sq b10_170 b10_169 .skip := sqE _ _
def b10_171 : EC := .sq b10_168 b10_170
@[simp] theorem b10_171e : Sq b10_171 b10_168 b10_170 := sqE _ _
def b10_172 : EC := .sq b10_167 b10_171
@[simp] theorem b10_172e : Sq b10_172 b10_167 b10_171 := sqE _ _
def b10_173 : EC := .sq b10_166 b10_172
@[simp] theorem b10_173e : Sq b10_173 b10_166 b10_172 := sqE _ _
def b10_174 : EC := .sq b10_165 b10_173
@[simp] theorem b10_174e : Sq b10_174 b10_165 b10_173 := sqE _ _
def b10_175 : EC := .sq b10_164 b10_174
@[simp] theorem b10_175e : Sq b10_175 b10_164 b10_174 := sqE _ _
@[simp] def b10_176l : List EO := [o 159 (.load 1 false) [t 158]]
def b10_176 : EC := .rg b10_176l true
@[simp] theorem b10_176e : Rg b10_176 b10_176l true := rgE _ _
@[simp] def b10_177l : List EO := [o 155 (.appB 39 4 56) [t 149, t 154]]
def b10_177 : EC := .rg b10_177l true
@[simp] theorem b10_177e : Rg b10_177 b10_177l true := rgE _ _
@[simp] def b10_178l : List EO := [o 163 (.build [.t (.str []), .t (.bool false), .snil, .t (.int .i64 0)] [(0, 1), (1, 1), (2, 1), (3, 1)]) [t 157, t 159, t 160, t 162]]
def b10_178 : EC := .rg b10_178l true
@[simp] theorem b10_178e : Rg b10_178 b10_178l true := rgE _ _
@[simp] def b10_179l : List EO := [o 164 (.bsl 4) [t 163]]
def b10_179 : EC := .rg b10_179l true
@[simp] theorem b10_179e : Rg b10_179 b10_179l true := rgE _ _
@[simp] def b10_180l : List EO := [o 165 (.appB 39 4 56) [t 155, t 164]]
def b10_180 : EC := .rg b10_180l true
@[simp] theorem b10_180e : Rg b10_180 b10_180l true := rgE _ _
@[simp] def b10_181l : List EO := [m 17 165]
def b10_181 : EC := .rg b10_181l true
@[simp] theorem b10_181e : Rg b10_181 b10_181l true := rgE _ _
def b10_182 : EC := .sq b10_181 .skip
@[simp] theorem b10_182e : Sq b10_182 b10_181 .skip := sqE _ _
def b10_183 : EC := .sq b10_180 b10_182
@[simp] theorem b10_183e : Sq b10_183 b10_180 b10_182 := sqE _ _
def b10_184 : EC := .sq b10_179 b10_183
@[simp] theorem b10_184e : Sq b10_184 b10_179 b10_183 := sqE _ _
def b10_185 : EC := .sq b10_178 b10_184
@[simp] theorem b10_185e : Sq b10_185 b10_178 b10_184 := sqE _ _
def b10_186 : EC := .sq b10_177 b10_185
@[simp] theorem b10_186e : Sq b10_186 b10_177 b10_185 := sqE _ _
def b10_187 : EC := .sq b10_176 b10_186
@[simp] theorem b10_187e : Sq b10_187 b10_176 b10_186 := sqE _ _
def b10_188 : EC := .al b10_175 b10_187
@[simp] theorem b10_188e : Al b10_188 b10_175 b10_187 := alE _ _
def b10_189 : EC := .sq b10_163 b10_188
@[simp] theorem b10_189e : Sq b10_189 b10_163 b10_188 := sqE _ _
def b10_190 : EC := .al b10_162 b10_189
@[simp] theorem b10_190e : Al b10_190 b10_162 b10_189 := alE _ _
def b10_191 : EC := .al b10_135 b10_190
@[simp] theorem b10_191e : Al b10_191 b10_135 b10_190 := alE _ _
def b10_192 : EC := .sq b10_121 b10_191
@[simp] theorem b10_192e : Sq b10_192 b10_121 b10_191 := sqE _ _
@[simp] def b10_193l : List EO := [o 159 (.load 1 false) [t 158]]
def b10_193 : EC := .rg b10_193l true
@[simp] theorem b10_193e : Rg b10_193 b10_193l true := rgE _ _
@[simp] def b10_194l : List EO := [o 155 (.appB 39 4 56) [t 149, t 154]]
def b10_194 : EC := .rg b10_194l true
@[simp] theorem b10_194e : Rg b10_194 b10_194l true := rgE _ _
@[simp] def b10_195l : List EO := [o 157 (.load 1 false) [t 156]]
def b10_195 : EC := .rg b10_195l true
@[simp] theorem b10_195e : Rg b10_195 b10_195l true := rgE _ _
@[simp] def b10_196l : List EO := [o 162 (.load 1 false) [t 161]]
def b10_196 : EC := .rg b10_196l true
@[simp] theorem b10_196e : Rg b10_196 b10_196l true := rgE _ _
@[simp] def b10_197l : List EO := [o 163 (.build [.t (.str []), .t (.bool false), .snil, .t (.int .i64 0)] [(0, 1), (1, 1), (2, 1), (3, 1)]) [t 157, t 159, t 160, t 162]]
def b10_197 : EC := .rg b10_197l true
@[simp] theorem b10_197e : Rg b10_197 b10_197l true := rgE _ _
@[simp] def b10_198l : List EO := [o 164 (.bsl 4) [t 163]]
def b10_198 : EC := .rg b10_198l true
@[simp] theorem b10_198e : Rg b10_198 b10_198l true := rgE _ _
@[simp] def b10_199l : List EO := [o 165 (.appB 39 4 56) [t 155, t 164]]
def b10_199 : EC := .rg b10_199l true
@[simp] theorem b10_199e : Rg b10_199 b10_199l true := rgE _ _
@[simp] def b10_200l : List EO := [m 17 165]
def b10_200 : EC := .rg b10_200l true
@[simp] theorem b10_200e : Rg b10_200 b10_200l true := rgE _ _
def b10_201 : EC := .sq b10_200 .skip
@[simp] theorem b10_201e : Sq b10_201 b10_200 .skip := sqE _ _
def b10_202 : EC := .sq b10_199 b10_201
@[simp] theorem b10_202e : Sq b10_202 b10_199 b10_201 := sqE _ _
def b10_203 : EC := .sq b10_198 b10_202
@[simp] theorem b10_203e : Sq b10_203 b10_198 b10_202 := sqE _ _
def b10_204 : EC := .sq b10_197 b10_203
@[simp] theorem b10_204e : Sq b10_204 b10_197 b10_203 := sqE _ _
def b10_205 : EC := .sq b10_196 b10_204
@[simp] theorem b10_205e : Sq b10_205 b10_196 b10_204 := sqE _ _
def b10_206 : EC := .sq b10_195 b10_205
@[simp] theorem b10_206e : Sq b10_206 b10_195 b10_205 := sqE _ _
def b10_207 : EC := .sq b10_194 b10_206
@[simp] theorem b10_207e : Sq b10_207 b10_194 b10_206 := sqE _ _
@[simp] def b10_208l : List EO := [o 157 (.load 1 false) [t 156]]
def b10_208 : EC := .rg b10_208l true
@[simp] theorem b10_208e : Rg b10_208 b10_208l true := rgE _ _
@[simp] def b10_209l : List EO := [o 155 (.appB 39 4 56) [t 149, t 154]]
def b10_209 : EC := .rg b10_209l true
@[simp] theorem b10_209e : Rg b10_209 b10_209l true := rgE _ _
@[simp] def b10_210l : List EO := [o 162 (.load 1 false) [t 161]]
def b10_210 : EC := .rg b10_210l true
@[simp] theorem b10_210e : Rg b10_210 b10_210l true := rgE _ _
@[simp] def b10_211l : List EO := [o 163 (.build [.t (.str []), .t (.bool false), .snil, .t (.int .i64 0)] [(0, 1), (1, 1), (2, 1), (3, 1)]) [t 157, t 159, t 160, t 162]]
def b10_211 : EC := .rg b10_211l true
@[simp] theorem b10_211e : Rg b10_211 b10_211l true := rgE _ _
@[simp] def b10_212l : List EO := [o 164 (.bsl 4) [t 163]]
def b10_212 : EC := .rg b10_212l true
@[simp] theorem b10_212e : Rg b10_212 b10_212l true := rgE _ _
@[simp] def b10_213l : List EO := [o 165 (.appB 39 4 56) [t 155, t 164]]
def b10_213 : EC := .rg b10_213l true
@[simp] theorem b10_213e : Rg b10_213 b10_213l true := rgE _ _
@[simp] def b10_214l : List EO := [m 17 165]
def b10_214 : EC := .rg b10_214l true
@[simp] theorem b10_214e : Rg b10_214 b10_214l true := rgE _ _
def b10_215 : EC := .sq b10_214 .skip
@[simp] theorem b10_215e : Sq b10_215 b10_214 .skip := sqE _ _
def b10_216 : EC := .sq b10_213 b10_215
@[simp] theorem b10_216e : Sq b10_216 b10_213 b10_215 := sqE _ _
def b10_217 : EC := .sq b10_212 b10_216
@[simp] theorem b10_217e : Sq b10_217 b10_212 b10_216 := sqE _ _
def b10_218 : EC := .sq b10_211 b10_217
@[simp] theorem b10_218e : Sq b10_218 b10_211 b10_217 := sqE _ _
def b10_219 : EC := .sq b10_210 b10_218
@[simp] theorem b10_219e : Sq b10_219 b10_210 b10_218 := sqE _ _
def b10_220 : EC := .sq b10_209 b10_219
@[simp] theorem b10_220e : Sq b10_220 b10_209 b10_219 := sqE _ _
@[simp] def b10_221l : List EO := [o 162 (.load 1 false) [t 161]]
def b10_221 : EC := .rg b10_221l true
@[simp] theorem b10_221e : Rg b10_221 b10_221l true := rgE _ _
@[simp] def b10_222l : List EO := [o 155 (.appB 39 4 56) [t 149, t 154]]
def b10_222 : EC := .rg b10_222l true
@[simp] theorem b10_222e : Rg b10_222 b10_222l true := rgE _ _
@[simp] def b10_223l : List EO := [o 163 (.build [.t (.str []), .t (.bool false), .snil, .t (.int .i64 0)] [(0, 1), (1, 1), (2, 1), (3, 1)]) [t 157, t 159, t 160, t 162]]
def b10_223 : EC := .rg b10_223l true
@[simp] theorem b10_223e : Rg b10_223 b10_223l true := rgE _ _
@[simp] def b10_224l : List EO := [o 164 (.bsl 4) [t 163]]
def b10_224 : EC := .rg b10_224l true
@[simp] theorem b10_224e : Rg b10_224 b10_224l true := rgE _ _
@[simp] def b10_225l : List EO := [o 165 (.appB 39 4 56) [t 155, t 164]]
def b10_225 : EC := .rg b10_225l true
@[simp] theorem b10_225e : Rg b10_225 b10_225l true := rgE _ _
@[simp] def b10_226l : List EO := [m 17 165]
def b10_226 : EC := .rg b10_226l true
@[simp] theorem b10_226e : Rg b10_226 b10_226l true := rgE _ _
def b10_227 : EC := .sq b10_226 .skip
@[simp] theorem b10_227e : Sq b10_227 b10_226 .skip := sqE _ _
def b10_228 : EC := .sq b10_225 b10_227
@[simp] theorem b10_228e : Sq b10_228 b10_225 b10_227 := sqE _ _
def b10_229 : EC := .sq b10_224 b10_228
@[simp] theorem b10_229e : Sq b10_229 b10_224 b10_228 := sqE _ _
def b10_230 : EC := .sq b10_223 b10_229
@[simp] theorem b10_230e : Sq b10_230 b10_223 b10_229 := sqE _ _
def b10_231 : EC := .sq b10_222 b10_230
@[simp] theorem b10_231e : Sq b10_231 b10_222 b10_230 := sqE _ _
def b10_232 : EC := .sq b10_221 b10_231
@[simp] theorem b10_232e : Sq b10_232 b10_221 b10_231 := sqE _ _
def b10_233 : EC := .al b10_220 b10_232
@[simp] theorem b10_233e : Al b10_233 b10_220 b10_232 := alE _ _
def b10_234 : EC := .sq b10_208 b10_233
@[simp] theorem b10_234e : Sq b10_234 b10_208 b10_233 := sqE _ _
@[simp] def b10_235l : List EO := [o 162 (.load 1 false) [t 161]]
def b10_235 : EC := .rg b10_235l true
@[simp] theorem b10_235e : Rg b10_235 b10_235l true := rgE _ _
@[simp] def b10_236l : List EO := [o 155 (.appB 39 4 56) [t 149, t 154]]
def b10_236 : EC := .rg b10_236l true
@[simp] theorem b10_236e : Rg b10_236 b10_236l true := rgE _ _
@[simp] def b10_237l : List EO := [o 157 (.load 1 false) [t 156]]
def b10_237 : EC := .rg b10_237l true
@[simp] theorem b10_237e : Rg b10_237 b10_237l true := rgE _ _
@[simp] def b10_238l : List EO := [o 163 (.build [.t (.str []), .t (.bool false), .snil, .t (.int .i64 0)] [(0, 1), (1, 1), (2, 1), (3, 1)]) [t 157, t 159, t 160, t 162]]
def b10_238 : EC := .rg b10_238l true
@[simp] theorem b10_238e : Rg b10_238 b10_238l true := rgE _ _
@[simp] def b10_239l : List EO := [o 164 (.bsl 4) [t 163]]
def b10_239 : EC := .rg b10_239l true
@[simp] theorem b10_239e : Rg b10_239 b10_239l true := rgE _ _
@[simp] def b10_240l : List EO := [o 165 (.appB 39 4 56) [t 155, t 164]]
def b10_240 : EC := .rg b10_240l true
@[simp] theorem b10_240e : Rg b10_240 b10_240l true := rgE _ _
@[simp] def b10_241l : List EO := [m 17 165]
def b10_241 : EC := .rg b10_241l true
@[simp] theorem b10_241e : Rg b10_241 b10_241l true := rgE _ _
def b10_242 : EC := .sq b10_241 .skip
@[simp] theorem b10_242e : Sq b10_242 b10_241 .skip := sqE _ _
def b10_243 : EC := .sq b10_240 b10_242
@[simp] theorem b10_243e : Sq b10_243 b10_240 b10_242 := sqE _ _
def b10_244 : EC := .sq b10_239 b10_243
@[simp] theorem b10_244e : Sq b10_244 b10_239 b10_243 := sqE _ _
def b10_245 : EC := .sq b10_238 b10_244
@[simp] theorem b10_245e : Sq b10_245 b10_238 b10_244 := sqE _ _
def b10_246 : EC := .sq b10_237 b10_245
@[simp] theorem b10_246e : Sq b10_246 b10_237 b10_245 := sqE _ _
def b10_247 : EC := .sq b10_236 b10_246
@[simp] theorem b10_247e : Sq b10_247 b10_236 b10_246 := sqE _ _
@[simp] def b10_248l : List EO := [o 157 (.load 1 false) [t 156]]
def b10_248 : EC := .rg b10_248l true
@[simp] theorem b10_248e : Rg b10_248 b10_248l true := rgE _ _
@[simp] def b10_249l : List EO := [o 155 (.appB 39 4 56) [t 149, t 154]]
def b10_249 : EC := .rg b10_249l true
@[simp] theorem b10_249e : Rg b10_249 b10_249l true := rgE _ _
@[simp] def b10_250l : List EO := [o 163 (.build [.t (.str []), .t (.bool false), .snil, .t (.int .i64 0)] [(0, 1), (1, 1), (2, 1), (3, 1)]) [t 157, t 159, t 160, t 162]]
def b10_250 : EC := .rg b10_250l true
@[simp] theorem b10_250e : Rg b10_250 b10_250l true := rgE _ _
@[simp] def b10_251l : List EO := [o 164 (.bsl 4) [t 163]]
def b10_251 : EC := .rg b10_251l true
@[simp] theorem b10_251e : Rg b10_251 b10_251l true := rgE _ _
@[simp] def b10_252l : List EO := [o 165 (.appB 39 4 56) [t 155, t 164]]
def b10_252 : EC := .rg b10_252l true
@[simp] theorem b10_252e : Rg b10_252 b10_252l true := rgE _ _
@[simp] def b10_253l : List EO := [m 17 165]
def b10_253 : EC := .rg b10_253l true
@[simp] theorem b10_253e : Rg b10_253 b10_253l true := rgE _ _
def b10_254 : EC := .sq b10_253 .skip
@[simp] theorem b10_254e : Sq b10_254 b10_253 .skip := sqE _ _
def b10_255 : EC := .sq b10_252 b10_254
@[simp] theorem b10_255e : Sq b10_255 b10_252 b10_254 := sqE _ _
def b10_256 : EC := .sq b10_251 b10_255
@[simp] theorem b10_256e : Sq b10_256 b10_251 b10_255 := sqE _ _
def b10_257 : EC := .sq b10_250 b10_256
@[simp] theorem b10_257e : Sq b10_257 b10_250 b10_256 := sqE _ _
def b10_258 : EC := .sq b10_249 b10_257
@[simp] theorem b10_258e : Sq b10_258 b10_249 b10_257 := sqE _ _
def b10_259 : EC := .sq b10_248 b10_258
@[simp] theorem b10_259e : Sq b10_259 b10_248 b10_258 := sqE _ _
def b10_260 : EC := .al b10_247 b10_259
@[simp] theorem b10_260e : Al b10_260 b10_247 b10_259 := alE _ _
def b10_261 : EC := .sq b10_235 b10_260
@[simp] theorem b10_261e : Sq b10_261 b10_235 b10_260 := sqE _ _
def b10_262 : EC := .al b10_234 b10_261
@[simp] theorem b10_262e : Al b10_262 b10_234 b10_261 := alE _ _
def b10_263 : EC := .al b10_207 b10_262
@[simp] theorem b10_263e : Al b10_263 b10_207 b10_262 := alE _ _
def b10_264 : EC := .sq b10_193 b10_263
@[simp] theorem b10_264e : Sq b10_264 b10_193 b10_263 := sqE _ _
@[simp] def b10_265l : List EO := [o 162 (.load 1 false) [t 161]]
def b10_265 : EC := .rg b10_265l true
@[simp] theorem b10_265e : Rg b10_265 b10_265l true := rgE _ _
@[simp] def b10_266l : List EO := [o 155 (.appB 39 4 56) [t 149, t 154]]
def b10_266 : EC := .rg b10_266l true
@[simp] theorem b10_266e : Rg b10_266 b10_266l true := rgE _ _
@[simp] def b10_267l : List EO := [o 157 (.load 1 false) [t 156]]
def b10_267 : EC := .rg b10_267l true
@[simp] theorem b10_267e : Rg b10_267 b10_267l true := rgE _ _
@[simp] def b10_268l : List EO := [o 159 (.load 1 false) [t 158]]
def b10_268 : EC := .rg b10_268l true
@[simp] theorem b10_268e : Rg b10_268 b10_268l true := rgE _ _
@[simp] def b10_269l : List EO := [o 163 (.build [.t (.str []), .t (.bool false), .snil, .t (.int .i64 0)] [(0, 1), (1, 1), (2, 1), (3, 1)]) [t 157, t 159, t 160, t 162]]
def b10_269 : EC := .rg b10_269l true
@[simp] theorem b10_269e : Rg b10_269 b10_269l true := rgE _ _
@[simp] def b10_270l : List EO := [o 164 (.bsl 4) [t 163]]
def b10_270 : EC := .rg b10_270l true
@[simp] theorem b10_270e : Rg b10_270 b10_270l true := rgE _ _
@[simp] def b10_271l : List EO := [o 165 (.appB 39 4 56) [t 155, t 164]]
def b10_271 : EC := .rg b10_271l true
@[simp] theorem b10_271e : Rg b10_271 b10_271l true := rgE _ _
@[simp] def b10_272l : List EO := [m 17 165]
def b10_272 : EC := .rg b10_272l true
@[simp] theorem b10_272e : Rg b10_272 b10_272l true := rgE _ _
def b10_273 : EC := .sq b10_272 .skip
@[simp] theorem b10_273e : Sq b10_273 b10_272 .skip := sqE _ _
def b10_274 : EC := .sq b10_271 b10_273
@[simp] theorem b10_274e : Sq b10_274 b10_271 b10_273 := sqE _ _
def b10_275 : EC := .sq b10_270 b10_274
@[simp] theorem b10_275e : Sq b10_275 b10_270 b10_274 := sqE _ _
def b10_276 : EC := .sq b10_269 b10_275
@[simp] theorem b10_276e : Sq b10_276 b10_269 b10_275 := sqE _ _
def b10_277 : EC := .sq b10_268 b10_276
@[simp] theorem b10_277e : Sq b10_277 b10_268 b10_276 := sqE _ _
def b10_278 : EC := .sq b10_267 b10_277
@[simp] theorem b10_278e : Sq b10_278 b10_267 b10_277 := sqE _ _
def b10_279 : EC := .sq b10_266 b10_278
@[simp] theorem b10_279e : Sq b10_279 b10_266 b10_278 := sqE _ _
@[simp] def b10_280l : List EO := [o 157 (.load 1 false) [t 156]]
def b10_280 : EC := .rg b10_280l true
@[simp] theorem b10_280e : Rg b10_280 b10_280l true := rgE _ _
@[simp] def b10_281l : List EO := [o 155 (.appB 39 4 56) [t 149, t 154]]
def b10_281 : EC := .rg b10_281l true
@[simp] theorem b10_281e : Rg b10_281 b10_281l true := rgE _ _
@[simp] def b10_282l : List EO := [o 159 (.load 1 false) [t 158]]
def b10_282 : EC := .rg b10_282l true
@[simp] theorem b10_282e : Rg b10_282 b10_282l true := rgE _ _
@[simp] def b10_283l : List EO := [o 163 (.build [.t (.str []), .t (.bool false), .snil, .t (.int .i64 0)] [(0, 1), (1, 1), (2, 1), (3, 1)]) [t 157, t 159, t 160, t 162]]
def b10_283 : EC := .rg b10_283l true
@[simp] theorem b10_283e : Rg b10_283 b10_283l true := rgE _ _
@[simp] def b10_284l : List EO := [o 164 (.bsl 4) [t 163]]
def b10_284 : EC := .rg b10_284l true
@[simp] theorem b10_284e : Rg b10_284 b10_284l true := rgE _ _
@[simp] def b10_285l : List EO := [o 165 (.appB 39 4 56) [t 155, t 164]]
def b10_285 : EC := .rg b10_285l true
@[simp] theorem b10_285e : Rg b10_285 b10_285l true := rgE _ _
@[simp] def b10_286l : List EO := [m 17 165]
def b10_286 : EC := .rg b10_286l true
@[simp] theorem b10_286e : Rg b10_286 b10_286l true := rgE _ _
def b10_287 : EC := .sq b10_286 .skip
@[simp] theorem b10_287e : Sq b10_287 b10_286 .skip := sqE _ _
def b10_288 : EC := .sq b10_285 b10_287
@[simp] theorem b10_288e : Sq b10_288 b10_285 b10_287 := sqE _ _
def b10_289 : EC := .sq b10_284 b10_288
@[simp] theorem b10_289e : Sq b10_289 b10_284 b10_288 := sqE _ _
def b10_290 : EC := .sq b10_283 b10_289
@[simp] theorem b10_290e : Sq b10_290 b10_283 b10_289 := sqE _ _
def b10_291 : EC := .sq b10_282 b10_290
@[simp] theorem b10_291e : Sq b10_291 b10_282 b10_290 := sqE _ _
def b10_292 : EC := .sq b10_281 b10_291
@[simp] theorem b10_292e : Sq b10_292 b10_281 b10_291 := sqE _ _
@[simp] def b10_293l : List EO := [o 159 (.load 1 false) [t 158]]
def b10_293 : EC := .rg b10_293l true
@[simp] theorem b10_293e : Rg b10_293 b10_293l true := rgE _ _
@[simp] def b10_294l : List EO := [o 155 (.appB 39 4 56) [t 149, t 154]]
def b10_294 : EC := .rg b10_294l true
@[simp] theorem b10_294e : Rg b10_294 b10_294l true := rgE _ _
@[simp] def b10_295l : List EO := [o 163 (.build [.t (.str []), .t (.bool false), .snil, .t (.int .i64 0)] [(0, 1), (1, 1), (2, 1), (3, 1)]) [t 157, t 159, t 160, t 162]]
def b10_295 : EC := .rg b10_295l true
@[simp] theorem b10_295e : Rg b10_295 b10_295l true := rgE _ _
@[simp] def b10_296l : List EO := [o 164 (.bsl 4) [t 163]]
def b10_296 : EC := .rg b10_296l true
@[simp] theorem b10_296e : Rg b10_296 b10_296l true := rgE _ _
@[simp] def b10_297l : List EO := [o 165 (.appB 39 4 56) [t 155, t 164]]
def b10_297 : EC := .rg b10_297l true
@[simp] theorem b10_297e : Rg b10_297 b10_297l true := rgE _ _
@[simp] def b10_298l : List EO := [m 17 165]
def b10_298 : EC := .rg b10_298l true
@[simp] theorem b10_298e : Rg b10_298 b10_298l true := rgE _ _
def b10_299 : EC := .sq b10_298 .skip
@[simp] theorem b10_299e : Sq b10_299 b10_298 .skip := sqE _ _
def b10_300 : EC := .sq b10_297 b10_299
@[simp] theorem b10_300e : Sq b10_300 b10_297 b10_299 := sqE _ _
def b10_301 : EC := .sq b10_296 b10_300
@[simp] theorem b10_301e : Sq b10_301 b10_296 b10_300 := sqE _ _
def b10_302 : EC := .sq b10_295 b10_301
@[simp] theorem b10_302e : Sq b10_302 b10_295 b10_301 := sqE _ _
def b10_303 : EC := .sq b10_294 b10_302
@[simp] theorem b10_303e : Sq b10_303 b10_294 b10_302 := sqE _ _
def b10_304 : EC := .sq b10_293 b10_303
@[simp] theorem b10_304e : Sq b10_304 b10_293 b10_303 := sqE _ _
def b10_305 : EC := .al b10_292 b10_304
@[simp] theorem b10_305e : Al b10_305 b10_292 b10_304 := alE _ _
def b10_306 : EC := .sq b10_280 b10_305
@[simp] theorem b10_306e : Sq b10_306 b10_280 b10_305 := sqE _ _
@[simp] def b10_307l : List EO := [o 159 (.load 1 false) [t 158]]
def b10_307 : EC := .rg b10_307l true
@[simp] theorem b10_307e : Rg b10_307 b10_307l true := rgE _ _
@[simp] def b10_308l : List EO := [o 155 (.appB 39 4 56) [t 149, t 154]]
def b10_308 : EC := .rg b10_308l true
@[simp] theorem b10_308e : Rg b10_308 b10_308l true := rgE _ _
@[simp] def b10_309l : List EO := [o 157 (.load 1 false) [t 156]]
def b10_309 : EC := .rg b10_309l true
@[simp] theorem b10_309e : Rg b10_309 b10_309l true := rgE _ _
@[simp] def b10_310l : List EO := [o 163 (.build [.t (.str []), .t (.bool false), .snil, .t (.int .i64 0)] [(0, 1), (1, 1), (2, 1), (3, 1)]) [t 157, t 159, t 160, t 162]]
def b10_310 : EC := .rg b10_310l true
@[simp] theorem b10_310e : Rg b10_310 b10_310l true := rgE _ _
@[simp] def b10_311l : List EO := [o 164 (.bsl 4) [t 163]]
def b10_311 : EC := .rg b10_311l true
@[simp] theorem b10_311e : Rg b10_311 b10_311l true := rgE _ _
@[simp] def b10_312l : List EO := [o 165 (.appB 39 4 56) [t 155, t 164]]
def b10_312 : EC := .rg b10_312l true
@[simp] theorem b10_312e : Rg b10_312 b10_312l true := rgE _ _
@[simp] def b10_313l : List EO := [m 17 165]
def b10_313 : EC := .rg b10_313l true
@[simp] theorem b10_313e : Rg b10_313 b10_313l true := rgE _ _
def b10_314 : EC := .sq b10_313 .skip
@[simp] theorem b10_314e : Sq b10_314 b10_313 .skip := sqE _ _
def b10_315 : EC := .sq b10_312 b10_314
@[simp] theorem b10_315e : Sq b10_315 b10_312 b10_314 := sqE _ _
def b10_316 : EC := .sq b10_311 b10_315
@[simp] theorem b10_316e : Sq b10_316 b10_311 b10_315 := sqE _ _
def b10_317 : EC := .sq b10_310 b10_316
@[simp] theorem b10_317e : Sq b10_317 b10_310 b10_316 := sqE _ _
def b10_318 : EC := .sq b10_309 b10_317
@[simp] theorem b10_318e : Sq b10_318 b10_309 b10_317 := sqE _ _
def b10_319 : EC := .sq b10_308 b10_318
@[simp] theorem b10_319e : Sq b10_319 b10_308 b10_318 := sqE _ _
@[simp] def b10_320l : List EO := [o 157 (.load 1 false) [t 156]]
def b10_320 : EC := .rg b10_320l true
@[simp] theorem b10_320e : Rg b10_320 b10_320l true := rgE _ _
@[simp] def b10_321l : List EO := [o 155 (.appB 39 4 56) [t 149, t 154]]
def b10_321 : EC := .rg b10_321l true
@[simp] theorem b10_321e : Rg b10_321 b10_321l true := rgE _ _
@[simp] def b10_322l : List EO := [o 163 (.build [.t (.str []), .t (.bool false), .snil, .t (.int .i64 0)] [(0, 1), (1, 1), (2, 1), (3, 1)]) [t 157, t 159, t 160, t 162]]
def b10_322 : EC := .rg b10_322l true
@[simp] theorem b10_322e : Rg b10_322 b10_322l true := rgE _ _
@[simp] def b10_323l : List EO := [o 164 (.bsl 4) [t 163]]
def b10_323 : EC := .rg b10_323l true
@[simp] theorem b10_323e : Rg b10_323 b10_323l true := rgE _ _
@[simp] def b10_324l : List EO := [o 165 (.appB 39 4 56) [t 155, t 164]]
def b10_324 : EC := .rg b10_324l true
@[simp] theorem b10_324e : Rg b10_324 b10_324l true := rgE _ _
@[simp] def b10_325l : List EO := [m 17 165]
def b10_325 : EC := .rg b10_325l true
@[simp] theorem b10_325e : Rg b10_325 b10_325l true := rgE _ _
def b10_326 : EC := .sq b10_325 .skip
@[simp] theorem b10_326e : Sq b10_326 b10_325 .skip := sqE _ _
def b10_327 : EC := .sq b10_324 b10_326
@[simp] theorem b10_327e : Sq b10_327 b10_324 b10_326 := sqE _ _
def b10_328 : EC := .sq b10_323 b10_327
@[simp] theorem b10_328e : Sq b10_328 b10_323 b10_327 := sqE _ _
def b10_329 : EC := .sq b10_322 b10_328
@[simp] theorem b10_329e : Sq b10_329 b10_322 b10_328 := sqE _ _
def b10_330 : EC := .sq b10_321 b10_329
@[simp] theorem b10_330e : Sq b10_330 b10_321 b10_329 := sqE _ _
def b10_331 : EC := .sq b10_320 b10_330
@[simp] theorem b10_331e : Sq b10_331 b10_320 b10_330 := sqE _ _
def b10_332 : EC := .al b10_319 b10_331
@[simp] theorem b10_332e : Al b10_332 b10_319 b10_331 := alE _ _
def b10_333 : EC := .sq b10_307 b10_332
@[simp] theorem b10_333e : Sq b10_333 b10_307 b10_332 := sqE _ _
def b10_334 : EC := .al b10_306 b10_333
@[simp] theorem b10_334e : Al b10_334 b10_306 b10_333 := alE _ _
def b10_335 : EC := .al b10_279 b10_334
@[simp] theorem b10_335e : Al b10_335 b10_279 b10_334 := alE _ _
def b10_336 : EC := .sq b10_265 b10_335
@[simp] theorem b10_336e : Sq b10_336 b10_265 b10_335 := sqE _ _
def b10_337 : EC := .al b10_264 b10_336
@[simp] theorem b10_337e : Al b10_337 b10_264 b10_336 := alE _ _
def b10_338 : EC := .al b10_192 b10_337
@[simp] theorem b10_338e : Al b10_338 b10_192 b10_337 := alE _ _
def b10_339 : EC := .al b10_120 b10_338
@[simp] theorem b10_339e : Al b10_339 b10_120 b10_338 := alE _ _
def b10_340 : EC := .sq b10_104 b10_339
@[simp] theorem b10_340e : Sq b10_340 b10_104 b10_339 := sqE _ _
def b10_341 : EC := .sq b10_103 b10_340
@[simp] theorem b10_341e : Sq b10_341 b10_103 b10_340 := sqE _ _
def b10_342 : EC := .sq b10_102 b10_341
@[simp] theorem b10_342e : Sq b10_342 b10_102 b10_341 := sqE _ _
def b10_343 : EC := .sq b10_101 b10_342
@[simp] theorem b10_343e : Sq b10_343 b10_101 b10_342 := sqE _ _
def b10_344 : EC := .sq b10_100 b10_343
@[simp] theorem b10_344e : Sq b10_344 b10_100 b10_343 := sqE _ _
def b10_345 : EC := .sq b10_99 b10_344
@[simp] theorem b10_345e : Sq b10_345 b10_99 b10_344 := sqE _ _
def b10_346 : EC := .sq b10_98 b10_345
@[simp] theorem b10_346e : Sq b10_346 b10_98 b10_345 := sqE _ _
def b10_347 : EC := .sq b10_97 b10_346
@[simp] theorem b10_347e : Sq b10_347 b10_97 b10_346 := sqE _ _
def b10_348 : EC := .sq b10_96 b10_347
@[simp] theorem b10_348e : Sq b10_348 b10_96 b10_347 := sqE _ _
def b10_349 : EC := .sq b10_95 b10_348
@[simp] theorem b10_349e : Sq b10_349 b10_95 b10_348 := sqE _ _
@[simp] def b10_350l : List EO := [m 166 0,
 o 167 (.call 40) [t 166],
 m 168 17,
 o 169 (.call 40) [t 168],
 o 170 (.eqv true false [0]) [t 167, t 169]]
def b10_350 : EC := .rg b10_350l false
@[simp] theorem b10_350e : Rg b10_350 b10_350l false := rgE _ _
@[simp] def b10_351l : List EO := [o 6 .mv [b true]]
def b10_351 : EC := .rg b10_351l false
@[simp] theorem b10_351e : Rg b10_351 b10_351l false := rgE _ _
def b10_352 : EC := .sq b10_351 .rt
@[simp] theorem b10_352e : Sq b10_352 b10_351 .rt := sqE _ _
def b10_353 : EC := .cd (t 170) b10_352 .skip
@[simp] theorem b10_353e : Cd b10_353 (t 170) b10_352 .skip := cdE _ _ _
def b10_354 : EC := .sq b10_350 b10_353
@[simp] theorem b10_354e : Sq b10_354 b10_350 b10_353 := sqE _ _
@[simp] def b10_355l : List EO := [m 172 0,
 o 173 (.call 35) [t 172],
 m 174 1,
 o 175 (.call 34) [t 173, t 174],
 m 171 175,
 o 176 (.ext 0) [t 171],
 o 177 (.ext 1) [t 171],
 m 18 176,
 m 19 177]
def b10_355 : EC := .rg b10_355l false
@[simp] theorem b10_355e : Rg b10_355 b10_355l false := rgE _ _
@[simp] def b10_356l : List EO := [m 179 17,
 o 180 (.call 35) [t 179],
 m 181 1,
 o 182 (.call 34) [t 180, t 181],
 m 178 182,
 o 183 (.ext 0) [t 178],
 o 184 (.ext 1) [t 178],
 m 20 183,
 m 21 184]
def b10_356 : EC := .rg b10_356l false
@[simp] theorem b10_356e : Rg b10_356 b10_356l false := rgE _ _
@[simp] def b10_357l : List EO := [m 185 18,
 m 186 20,
 o 187 (.bin .eql) [t 185, t 186],
 m 188 187,
 y 189 188 .mv [t 19],
 y 190 188 .mv [t 21],
 y 191 188 (.bin .eql) [t 189, t 190],
 o 192 .pick [t 188, t 191, b false],
 m 6 192]
def b10_357 : EC := .rg b10_357l false
@[simp] theorem b10_357e : Rg b10_357 b10_357l false := rgE _ _
def b10_358 : EC := .sq b10_357 .rt
@[simp] theorem b10_358e : Sq b10_358 b10_357 .rt := sqE _ _
def b10_359 : EC := .sq b10_356 b10_358
@[simp] theorem b10_359e : Sq b10_359 b10_356 b10_358 := sqE _ _
def b10_360 : EC := .sq b10_355 b10_359
@[simp] theorem b10_360e : Sq b10_360 b10_355 b10_359 := sqE _ _
def b10_361 : EC := .sq b10_354 b10_360
@[simp] theorem b10_361e : Sq b10_361 b10_354 b10_360 := sqE _ _
def b10_362 : EC := .sq b10_349 b10_361
@[simp] theorem b10_362e : Sq b10_362 b10_349 b10_361 := sqE _ _
def b10_363 : EC := .sq b10_94 b10_362
@[simp] theorem b10_363e : Sq b10_363 b10_94 b10_362 := sqE _ _
def b10_364 : EC := .sq b10_89 b10_363
@[simp] theorem b10_364e : Sq b10_364 b10_89 b10_363 := sqE _ _
def b10_365 : EC := .sq b10_59 b10_364
@[simp] theorem b10_365e : Sq b10_365 b10_59 b10_364 := sqE _ _
def b10_366 : EC := .sq b10_58 b10_365
@[simp] theorem b10_366e : Sq b10_366 b10_58 b10_365 := sqE _ _
def b10_367 : EC := .sq b10_53 b10_366
@[simp] theorem b10_367e : Sq b10_367 b10_53 b10_366 := sqE _ _
def b10_368 : EC := .sq b10_37 b10_367
@[simp] theorem b10_368e : Sq b10_368 b10_37 b10_367 := sqE _ _
def b10_369 : EC := .sq b10_36 b10_368
@[simp] theorem b10_369e : Sq b10_369 b10_36 b10_368 := sqE _ _
def b10_370 : EC := .sq b10_35 b10_369
@[simp] theorem b10_370e : Sq b10_370 b10_35 b10_369 := sqE _ _
def b10_371 : EC := .sq b10_10 b10_370
@[simp] theorem b10_371e : Sq b10_371 b10_10 b10_370 := sqE _ _
def b10_372 : EC := .sq b10_5 b10_371
@[simp] theorem b10_372e : Sq b10_372 b10_5 b10_371 := sqE _ _
def b10_373 : EC := .sq b10_0 b10_372
@[simp] theorem b10_373e : Sq b10_373 b10_0 b10_372 := sqE _ _
def b_tallystonelaw33_CheckRenames_10 : EC := b10_373
theorem kb_10 : ecB Tryd.prog 10 = some (193, b_tallystonelaw33_CheckRenames_10, [.tm 6]) := by kernel_rfl

/-- tallystone/tallystonelaw33.CheckLists -/
@[simp] def c11_0l : List EO := [o 4 .mv [b false]]
def c11_0 : EC := .rg c11_0l false
@[simp] theorem c11_0e : Rg c11_0 c11_0l false := rgE _ _
@[simp] def c11_1l : List EO := [o 8 (.call 16) [],
 o 9 (.un .not) [t 8]]
def c11_1 : EC := .rg c11_1l false
@[simp] theorem c11_1e : Rg c11_1 c11_1l false := rgE _ _
@[simp] def c11_2l : List EO := [o 4 .mv [b false]]
def c11_2 : EC := .rg c11_2l false
@[simp] theorem c11_2e : Rg c11_2 c11_2l false := rgE _ _
def c11_3 : EC := .sq c11_2 .rt
@[simp] theorem c11_3e : Sq c11_3 c11_2 .rt := sqE _ _
def c11_4 : EC := .cd (t 9) c11_3 .skip
@[simp] theorem c11_4e : Cd c11_4 (t 9) c11_3 .skip := cdE _ _ _
def c11_5 : EC := .sq c11_1 c11_4
@[simp] theorem c11_5e : Sq c11_5 c11_1 c11_4 := sqE _ _
@[simp] def c11_6l : List EO := [m 10 0,
 o 11 (.call 17) [t 10],
 o 12 (.un .not) [t 11]]
def c11_6 : EC := .rg c11_6l false
@[simp] theorem c11_6e : Rg c11_6 c11_6l false := rgE _ _
@[simp] def c11_7l : List EO := [o 4 .mv [b true]]
def c11_7 : EC := .rg c11_7l false
@[simp] theorem c11_7e : Rg c11_7 c11_7l false := rgE _ _
def c11_8 : EC := .sq c11_7 .rt
@[simp] theorem c11_8e : Sq c11_8 c11_7 .rt := sqE _ _
def c11_9 : EC := .cd (t 12) c11_8 .skip
@[simp] theorem c11_9e : Cd c11_9 (t 12) c11_8 .skip := cdE _ _ _
def c11_10 : EC := .sq c11_6 c11_9
@[simp] theorem c11_10e : Sq c11_10 c11_6 c11_9 := sqE _ _
@[simp] def c11_11l : List EO := [m 13 0,
 o 14 (.call 35) [t 13],
 o 15 (.call 41) [t 14],
 m 16 0,
 o 17 (.call 42) [t 16],
 m 5 15,
 m 6 17]
def c11_11 : EC := .rg c11_11l false
@[simp] theorem c11_11e : Rg c11_11 c11_11l false := rgE _ _
@[simp] def c11_12l : List EO := [m 18 5,
 o 19 .lenL [t 18],
 m 20 6,
 o 21 .lenL [t 20],
 o 22 (.bin .neq) [t 19, t 21],
 m 23 22,
 n 24 23 .mv [t 0],
 n 25 23 (.call 35) [t 24],
 n 26 23 .mv [t 1],
 n 27 23 (.call 43) [t 25, t 26],
 n 28 23 .mv [t 0],
 n 29 23 .mv [t 1],
 n 30 23 (.call 44) [t 28, t 29],
 n 31 23 (.eqv true false [0]) [t 27, t 30],
 o 32 .pick [t 23, b true, t 31]]
def c11_12 : EC := .rg c11_12l false
@[simp] theorem c11_12e : Rg c11_12 c11_12l false := rgE _ _
@[simp] def c11_13l : List EO := [o 4 .mv [b false]]
def c11_13 : EC := .rg c11_13l false
@[simp] theorem c11_13e : Rg c11_13 c11_13l false := rgE _ _
def c11_14 : EC := .sq c11_13 .rt
@[simp] theorem c11_14e : Sq c11_14 c11_13 .rt := sqE _ _
def c11_15 : EC := .cd (t 32) c11_14 .skip
@[simp] theorem c11_15e : Cd c11_15 (t 32) c11_14 .skip := cdE _ _ _
def c11_16 : EC := .sq c11_12 c11_15
@[simp] theorem c11_16e : Sq c11_16 c11_12 c11_15 := sqE _ _
@[simp] def c11_17l : List EO := [o 7 .mv [i 0]]
def c11_17 : EC := .rg c11_17l false
@[simp] theorem c11_17e : Rg c11_17 c11_17l false := rgE _ _
@[simp] def c11_18l : List EO := [m 33 7,
 m 34 5,
 o 35 .lenL [t 34],
 o 36 (.bin .lss) [t 33, t 35]]
def c11_18 : EC := .rg c11_18l false
@[simp] theorem c11_18e : Rg c11_18 c11_18l false := rgE _ _
def c11_19 : EC := .cd (t 36) .skip (.ex 0)
@[simp] theorem c11_19e : Cd c11_19 (t 36) .skip (.ex 0) := cdE _ _ _
def c11_20 : EC := .sq c11_18 c11_19
@[simp] theorem c11_20e : Sq c11_20 c11_18 c11_19 := sqE _ _
@[simp] def c11_21l : List EO := [m 39 5,
 m 40 7,
 o 41 (.iaS 1) [t 39, t 40],
 o 42 (.load 1 false) [t 41],
 m 43 6,
 m 44 7,
 o 45 (.iaS 1) [t 43, t 44],
 o 46 (.load 1 false) [t 45],
 o 47 (.bin .neq) [t 42, t 46]]
def c11_21 : EC := .rg c11_21l true
@[simp] theorem c11_21e : Rg c11_21 c11_21l true := rgE _ _
@[simp] def c11_22l : List EO := [o 4 .mv [b false]]
def c11_22 : EC := .rg c11_22l false
@[simp] theorem c11_22e : Rg c11_22 c11_22l false := rgE _ _
def c11_23 : EC := .sq c11_22 .rt
@[simp] theorem c11_23e : Sq c11_23 c11_22 .rt := sqE _ _
def c11_24 : EC := .cd (t 47) c11_23 .skip
@[simp] theorem c11_24e : Cd c11_24 (t 47) c11_23 .skip := cdE _ _ _
def c11_25 : EC := .sq c11_21 c11_24
@[simp] theorem c11_25e : Sq c11_25 c11_21 c11_24 := sqE _ _
def c11_26 : EC := .bk 1 c11_25
@[simp] theorem c11_26e : Bk c11_26 1 c11_25 := bkE _ _
@[simp] def c11_27l : List EO := [m 37 7,
 o 38 (.bin .add) [t 37, i 1],
 m 7 38]
def c11_27 : EC := .rg c11_27l false
@[simp] theorem c11_27e : Rg c11_27 c11_27l false := rgE _ _
def c11_28 : EC := .sq c11_26 c11_27
@[simp] theorem c11_28e : Sq c11_28 c11_26 c11_27 := sqE _ _
def c11_29 : EC := .sq c11_20 c11_28
@[simp] theorem c11_29e : Sq c11_29 c11_20 c11_28 := sqE _ _
def c11_30 : EC := .bk 0 (.lp c11_29)
@[simp] theorem c11_30e : Bk c11_30 0 (.lp c11_29) := bkE _ _
def c11_31 : EC := .sq c11_17 c11_30
@[simp] theorem c11_31e : Sq c11_31 c11_17 c11_30 := sqE _ _
@[simp] def c11_32l : List EO := [o 4 .mv [b true]]
def c11_32 : EC := .rg c11_32l false
@[simp] theorem c11_32e : Rg c11_32 c11_32l false := rgE _ _
def c11_33 : EC := .sq c11_32 .rt
@[simp] theorem c11_33e : Sq c11_33 c11_32 .rt := sqE _ _
def c11_34 : EC := .sq c11_31 c11_33
@[simp] theorem c11_34e : Sq c11_34 c11_31 c11_33 := sqE _ _
def c11_35 : EC := .sq c11_16 c11_34
@[simp] theorem c11_35e : Sq c11_35 c11_16 c11_34 := sqE _ _
def c11_36 : EC := .sq c11_11 c11_35
@[simp] theorem c11_36e : Sq c11_36 c11_11 c11_35 := sqE _ _
def c11_37 : EC := .sq c11_10 c11_36
@[simp] theorem c11_37e : Sq c11_37 c11_10 c11_36 := sqE _ _
def c11_38 : EC := .sq c11_5 c11_37
@[simp] theorem c11_38e : Sq c11_38 c11_5 c11_37 := sqE _ _
def c11_39 : EC := .sq c11_0 c11_38
@[simp] theorem c11_39e : Sq c11_39 c11_0 c11_38 := sqE _ _
def c_tallystonelaw33_CheckLists_11 : EC := c11_39
theorem k_11 : ecF Tryd.prog 11 = some (48, c_tallystonelaw33_CheckLists_11, [.tm 4]) := by kernel_rfl

/-- tallystone/tallystonelaw34.awake -/
@[simp] def c12_0l : List EO := [o 0 .mv [b false]]
def c12_0 : EC := .rg c12_0l false
@[simp] theorem c12_0e : Rg c12_0 c12_0l false := rgE _ _
@[simp] def c12_1l : List EO := [o 6 (.build [.t (.int .i64 0), .t (.int .i64 0), .t (.int .i64 0)] [(0, 1), (1, 1)]) [i 1, i 2],
 o 7 (.build [.t (.int .i64 0), .t (.int .i64 0), .t (.int .i64 0)] [(0, 1), (1, 1)]) [i 1, i 3],
 o 8 (.build [.t (.int .i64 0), .t (.int .i64 0), .t (.int .i64 0)] [(0, 1)]) [i 10],
 o 9 (.build [.t (.int .i64 0), .t (.int .i64 0), .t (.int .i64 0)] [(0, 1)]) [i 5],
 o 10 (.build [.t (.int .i64 0), .t (.int .i64 0), .t (.int .i64 0)] [(0, 1)]) [i 23],
 o 11 (.build [.t (.int .i64 0), .t (.int .i64 0), .t (.int .i64 0)] [(0, 1), (1, 1)]) [i 26, i 7],
 o 12 (.bsl 3) [t 6, t 7, t 8, t 9, t 10, t 11],
 o 13 (.build [.t (.str []), .t (.bool false), .snil] [(2, 1)]) [t 12],
 o 14 (.call 25) [t 13],
 m 5 14,
 o 15 (.ext 0) [t 5],
 o 16 (.ext 1) [t 5],
 o 1 (.alloc [.t (.str []), .t (.bool false), .snil]) [],
 u (.store 3) [t 1, t 15],
 m 2 16]
def c12_1 : EC := .rg c12_1l false
@[simp] theorem c12_1e : Rg c12_1 c12_1l false := rgE _ _
@[simp] def c12_2l : List EO := [o 18 (.load 3 true) [t 1],
 o 19 (.call 26) [t 18],
 m 17 19,
 o 20 (.ext 0) [t 17],
 o 21 (.ext 1) [t 17],
 m 3 20,
 m 4 21]
def c12_2 : EC := .rg c12_2l false
@[simp] theorem c12_2e : Rg c12_2 c12_2l false := rgE _ _
@[simp] def c12_3l : List EO := [m 22 2,
 o 23 (.bin .eql) [t 22, i 0],
 m 24 23,
 y 25 24 .mv [t 4],
 y 26 24 (.bin .eql) [t 25, i 0],
 o 27 .pick [t 24, t 26, b false],
 m 28 27,
 y 29 28 .mv [t 3],
 y 30 28 (.bin .eql) [t 29, c (.t (.str [112, 117, 115, 104, 32, 45, 53, 10, 115, 116, 111, 114, 101, 32, 48, 10, 116, 111, 32, 55, 10]))],
 o 31 .pick [t 28, t 30, b false],
 m 32 31,
 o 33 .pick [t 32, b true, b false],
 m 0 33]
def c12_3 : EC := .rg c12_3l false
@[simp] theorem c12_3e : Rg c12_3 c12_3l false := rgE _ _
def c12_4 : EC := .sq c12_3 .rt
@[simp] theorem c12_4e : Sq c12_4 c12_3 .rt := sqE _ _
def c12_5 : EC := .sq c12_2 c12_4
@[simp] theorem c12_5e : Sq c12_5 c12_2 c12_4 := sqE _ _
def c12_6 : EC := .sq c12_1 c12_5
@[simp] theorem c12_6e : Sq c12_6 c12_1 c12_5 := sqE _ _
def c12_7 : EC := .sq c12_0 c12_6
@[simp] theorem c12_7e : Sq c12_7 c12_0 c12_6 := sqE _ _
def c_tallystonelaw34_awake_12 : EC := c12_7
theorem k_12 : ecF Tryd.prog 12 = some (34, c_tallystonelaw34_awake_12, [.tm 0]) := by kernel_rfl

/-- tallystone/compile.Operate -/
@[simp] def c13_0l : List EO := [o 8 .mv [i 0],
 o 9 .mv [b false]]
def c13_0 : EC := .rg c13_0l false
@[simp] theorem c13_0e : Rg c13_0 c13_0l false := rgE _ _
@[simp] def c13_1l : List EO := [m 11 2,
 o 12 (.call 45) [t 11],
 o 13 (.un .not) [t 12],
 m 14 13,
 n 15 14 .mv [t 3],
 n 16 14 (.call 45) [t 15],
 n 17 14 (.un .not) [t 16],
 o 18 .pick [t 14, b true, t 17]]
def c13_1 : EC := .rg c13_1l false
@[simp] theorem c13_1e : Rg c13_1 c13_1l false := rgE _ _
@[simp] def c13_2l : List EO := [o 8 .mv [i 0],
 o 9 .mv [b false]]
def c13_2 : EC := .rg c13_2l false
@[simp] theorem c13_2e : Rg c13_2 c13_2l false := rgE _ _
def c13_3 : EC := .sq c13_2 .rt
@[simp] theorem c13_3e : Sq c13_3 c13_2 .rt := sqE _ _
def c13_4 : EC := .cd (t 18) c13_3 .skip
@[simp] theorem c13_4e : Cd c13_4 (t 18) c13_3 .skip := cdE _ _ _
def c13_5 : EC := .sq c13_1 c13_4
@[simp] theorem c13_5e : Sq c13_5 c13_1 c13_4 := sqE _ _
@[simp] def c13_6l : List EO := [o 10 .mv [i 0]]
def c13_6 : EC := .rg c13_6l false
@[simp] theorem c13_6e : Rg c13_6 c13_6l false := rgE _ _
@[simp] def c13_7l : List EO := [m 19 0]
def c13_7 : EC := .rg c13_7l false
@[simp] theorem c13_7e : Rg c13_7 c13_7l false := rgE _ _
@[simp] def c13_8l : List EO := [o 21 (.bin .eql) [t 19, i 5],
 m 20 21]
def c13_8 : EC := .rg c13_8l false
@[simp] theorem c13_8e : Rg c13_8 c13_8l false := rgE _ _
@[simp] def c13_9l : List EO := [m 22 2,
 o 23 (.un .neg) [t 22],
 m 10 23]
def c13_9 : EC := .rg c13_9l false
@[simp] theorem c13_9e : Rg c13_9 c13_9l false := rgE _ _
@[simp] def c13_10l : List EO := [o 25 (.bin .eql) [t 19, i 6],
 m 24 25]
def c13_10 : EC := .rg c13_10l false
@[simp] theorem c13_10e : Rg c13_10 c13_10l false := rgE _ _
@[simp] def c13_11l : List EO := [m 26 2,
 m 27 2,
 o 28 (.un .neg) [t 27],
 o 29 (.mm true) [t 26, t 28],
 m 10 29]
def c13_11 : EC := .rg c13_11l false
@[simp] theorem c13_11e : Rg c13_11 c13_11l false := rgE _ _
@[simp] def c13_12l : List EO := [o 31 (.bin .eql) [t 19, i 8],
 m 30 31]
def c13_12 : EC := .rg c13_12l false
@[simp] theorem c13_12e : Rg c13_12 c13_12l false := rgE _ _
@[simp] def c13_13l : List EO := [m 32 2,
 o 33 (.bin .eql) [t 32, i 0],
 o 34 (.call 46) [t 33],
 m 10 34]
def c13_13 : EC := .rg c13_13l false
@[simp] theorem c13_13e : Rg c13_13 c13_13l false := rgE _ _
@[simp] def c13_14l : List EO := [o 36 (.bin .eql) [t 19, i 9],
 m 35 36]
def c13_14 : EC := .rg c13_14l false
@[simp] theorem c13_14e : Rg c13_14 c13_14l false := rgE _ _
@[simp] def c13_15l : List EO := [m 37 1,
 o 38 (.bin .lss) [t 37, i 1],
 m 39 38,
 n 40 39 .mv [t 1],
 n 41 39 (.call 45) [t 40],
 n 42 39 (.un .not) [t 41],
 o 43 .pick [t 39, b true, t 42]]
def c13_15 : EC := .rg c13_15l false
@[simp] theorem c13_15e : Rg c13_15 c13_15l false := rgE _ _
@[simp] def c13_16l : List EO := [o 8 .mv [i 0],
 o 9 .mv [b false]]
def c13_16 : EC := .rg c13_16l false
@[simp] theorem c13_16e : Rg c13_16 c13_16l false := rgE _ _
def c13_17 : EC := .sq c13_16 .rt
@[simp] theorem c13_17e : Sq c13_17 c13_16 .rt := sqE _ _
def c13_18 : EC := .cd (t 43) c13_17 .skip
@[simp] theorem c13_18e : Cd c13_18 (t 43) c13_17 .skip := cdE _ _ _
def c13_19 : EC := .sq c13_15 c13_18
@[simp] theorem c13_19e : Sq c13_19 c13_15 c13_18 := sqE _ _
@[simp] def c13_20l : List EO := [m 44 2,
 m 45 2,
 o 46 (.un .neg) [t 45],
 o 47 (.mm true) [t 44, t 46],
 o 48 (.bin .mul) [i 2, t 47],
 m 49 1,
 o 50 (.bin .add) [t 48, t 49],
 m 51 1,
 o 52 (.bin .mul) [i 2, t 51],
 o 53 (.bin .quo) [t 50, t 52],
 m 10 53]
def c13_20 : EC := .rg c13_20l false
@[simp] theorem c13_20e : Rg c13_20 c13_20l false := rgE _ _
@[simp] def c13_21l : List EO := [m 54 2,
 o 55 (.bin .lss) [t 54, i 0]]
def c13_21 : EC := .rg c13_21l false
@[simp] theorem c13_21e : Rg c13_21 c13_21l false := rgE _ _
@[simp] def c13_22l : List EO := [m 56 10,
 o 57 (.un .neg) [t 56],
 m 10 57]
def c13_22 : EC := .rg c13_22l false
@[simp] theorem c13_22e : Rg c13_22 c13_22l false := rgE _ _
def c13_23 : EC := .cd (t 55) c13_22 .skip
@[simp] theorem c13_23e : Cd c13_23 (t 55) c13_22 .skip := cdE _ _ _
def c13_24 : EC := .sq c13_21 c13_23
@[simp] theorem c13_24e : Sq c13_24 c13_21 c13_23 := sqE _ _
def c13_25 : EC := .sq c13_20 c13_24
@[simp] theorem c13_25e : Sq c13_25 c13_20 c13_24 := sqE _ _
def c13_26 : EC := .sq c13_19 c13_25
@[simp] theorem c13_26e : Sq c13_26 c13_19 c13_25 := sqE _ _
@[simp] def c13_27l : List EO := [o 59 (.bin .eql) [t 19, i 10],
 m 58 59]
def c13_27 : EC := .rg c13_27l false
@[simp] theorem c13_27e : Rg c13_27 c13_27l false := rgE _ _
@[simp] def c13_28l : List EO := [m 60 2,
 m 61 3,
 o 62 (.bin .add) [t 60, t 61],
 m 10 62]
def c13_28 : EC := .rg c13_28l false
@[simp] theorem c13_28e : Rg c13_28 c13_28l false := rgE _ _
@[simp] def c13_29l : List EO := [o 64 (.bin .eql) [t 19, i 11],
 m 63 64]
def c13_29 : EC := .rg c13_29l false
@[simp] theorem c13_29e : Rg c13_29 c13_29l false := rgE _ _
@[simp] def c13_30l : List EO := [m 65 2,
 m 66 3,
 o 67 (.bin .sub) [t 65, t 66],
 m 10 67]
def c13_30 : EC := .rg c13_30l false
@[simp] theorem c13_30e : Rg c13_30 c13_30l false := rgE _ _
@[simp] def c13_31l : List EO := [o 69 (.bin .eql) [t 19, i 12],
 m 68 69]
def c13_31 : EC := .rg c13_31l false
@[simp] theorem c13_31e : Rg c13_31 c13_31l false := rgE _ _
@[simp] def c13_32l : List EO := [m 70 2,
 m 71 3,
 o 72 (.call 47) [t 70, t 71],
 o 73 (.ext 0) [t 72],
 o 74 (.ext 1) [t 72],
 m 8 73,
 m 9 74]
def c13_32 : EC := .rg c13_32l false
@[simp] theorem c13_32e : Rg c13_32 c13_32l false := rgE _ _
def c13_33 : EC := .sq c13_32 .rt
@[simp] theorem c13_33e : Sq c13_33 c13_32 .rt := sqE _ _
@[simp] def c13_34l : List EO := [o 76 (.bin .eql) [t 19, i 13],
 m 75 76]
def c13_34 : EC := .rg c13_34l false
@[simp] theorem c13_34e : Rg c13_34 c13_34l false := rgE _ _
@[simp] def c13_35l : List EO := [m 77 2,
 m 78 3,
 o 79 (.mm false) [t 77, t 78],
 m 10 79]
def c13_35 : EC := .rg c13_35l false
@[simp] theorem c13_35e : Rg c13_35 c13_35l false := rgE _ _
@[simp] def c13_36l : List EO := [o 81 (.bin .eql) [t 19, i 14],
 m 80 81]
def c13_36 : EC := .rg c13_36l false
@[simp] theorem c13_36e : Rg c13_36 c13_36l false := rgE _ _
@[simp] def c13_37l : List EO := [m 82 2,
 m 83 3,
 o 84 (.mm true) [t 82, t 83],
 m 10 84]
def c13_37 : EC := .rg c13_37l false
@[simp] theorem c13_37e : Rg c13_37 c13_37l false := rgE _ _
@[simp] def c13_38l : List EO := [o 86 (.bin .eql) [t 19, i 15],
 m 85 86]
def c13_38 : EC := .rg c13_38l false
@[simp] theorem c13_38e : Rg c13_38 c13_38l false := rgE _ _
@[simp] def c13_39l : List EO := [m 87 2,
 o 88 (.bin .neq) [t 87, i 0],
 m 89 88,
 y 90 89 .mv [t 3],
 y 91 89 (.bin .neq) [t 90, i 0],
 o 92 .pick [t 89, t 91, b false],
 o 93 (.call 46) [t 92],
 m 10 93]
def c13_39 : EC := .rg c13_39l false
@[simp] theorem c13_39e : Rg c13_39 c13_39l false := rgE _ _
@[simp] def c13_40l : List EO := [o 95 (.bin .eql) [t 19, i 16],
 m 94 95]
def c13_40 : EC := .rg c13_40l false
@[simp] theorem c13_40e : Rg c13_40 c13_40l false := rgE _ _
@[simp] def c13_41l : List EO := [m 96 2,
 o 97 (.bin .neq) [t 96, i 0],
 m 98 97,
 n 99 98 .mv [t 3],
 n 100 98 (.bin .neq) [t 99, i 0],
 o 101 .pick [t 98, b true, t 100],
 o 102 (.call 46) [t 101],
 m 10 102]
def c13_41 : EC := .rg c13_41l false
@[simp] theorem c13_41e : Rg c13_41 c13_41l false := rgE _ _
@[simp] def c13_42l : List EO := [o 104 (.bin .eql) [t 19, i 17],
 m 103 104]
def c13_42 : EC := .rg c13_42l false
@[simp] theorem c13_42e : Rg c13_42 c13_42l false := rgE _ _
@[simp] def c13_43l : List EO := [m 105 2,
 m 106 3,
 o 107 (.bin .lss) [t 105, t 106],
 o 108 (.call 46) [t 107],
 m 10 108]
def c13_43 : EC := .rg c13_43l false
@[simp] theorem c13_43e : Rg c13_43 c13_43l false := rgE _ _
@[simp] def c13_44l : List EO := [o 110 (.bin .eql) [t 19, i 18],
 m 109 110]
def c13_44 : EC := .rg c13_44l false
@[simp] theorem c13_44e : Rg c13_44 c13_44l false := rgE _ _
@[simp] def c13_45l : List EO := [m 111 2,
 m 112 3,
 o 113 (.bin .leq) [t 111, t 112],
 o 114 (.call 46) [t 113],
 m 10 114]
def c13_45 : EC := .rg c13_45l false
@[simp] theorem c13_45e : Rg c13_45 c13_45l false := rgE _ _
@[simp] def c13_46l : List EO := [o 116 (.bin .eql) [t 19, i 19],
 m 115 116]
def c13_46 : EC := .rg c13_46l false
@[simp] theorem c13_46e : Rg c13_46 c13_46l false := rgE _ _
@[simp] def c13_47l : List EO := [m 117 2,
 m 118 3,
 o 119 (.bin .eql) [t 117, t 118],
 o 120 (.call 46) [t 119],
 m 10 120]
def c13_47 : EC := .rg c13_47l false
@[simp] theorem c13_47e : Rg c13_47 c13_47l false := rgE _ _
@[simp] def c13_48l : List EO := [o 122 (.bin .eql) [t 19, i 20],
 m 121 122]
def c13_48 : EC := .rg c13_48l false
@[simp] theorem c13_48e : Rg c13_48 c13_48l false := rgE _ _
@[simp] def c13_49l : List EO := [m 123 2,
 m 124 3,
 o 125 (.bin .neq) [t 123, t 124],
 o 126 (.call 46) [t 125],
 m 10 126]
def c13_49 : EC := .rg c13_49l false
@[simp] theorem c13_49e : Rg c13_49 c13_49l false := rgE _ _
@[simp] def c13_50l : List EO := [o 128 (.bin .eql) [t 19, i 21],
 m 127 128]
def c13_50 : EC := .rg c13_50l false
@[simp] theorem c13_50e : Rg c13_50 c13_50l false := rgE _ _
@[simp] def c13_51l : List EO := [m 129 2,
 m 130 3,
 o 131 (.bin .geq) [t 129, t 130],
 o 132 (.call 46) [t 131],
 m 10 132]
def c13_51 : EC := .rg c13_51l false
@[simp] theorem c13_51e : Rg c13_51 c13_51l false := rgE _ _
@[simp] def c13_52l : List EO := [o 134 (.bin .eql) [t 19, i 22],
 m 133 134]
def c13_52 : EC := .rg c13_52l false
@[simp] theorem c13_52e : Rg c13_52 c13_52l false := rgE _ _
@[simp] def c13_53l : List EO := [m 135 2,
 m 136 3,
 o 137 (.bin .gtr) [t 135, t 136],
 o 138 (.call 46) [t 137],
 m 10 138]
def c13_53 : EC := .rg c13_53l false
@[simp] theorem c13_53e : Rg c13_53 c13_53l false := rgE _ _
@[simp] def c13_54l : List EO := [o 8 .mv [i 0],
 o 9 .mv [b false]]
def c13_54 : EC := .rg c13_54l false
@[simp] theorem c13_54e : Rg c13_54 c13_54l false := rgE _ _
def c13_55 : EC := .sq c13_54 .rt
@[simp] theorem c13_55e : Sq c13_55 c13_54 .rt := sqE _ _
def c13_56 : EC := .cd (t 133) c13_53 c13_55
@[simp] theorem c13_56e : Cd c13_56 (t 133) c13_53 c13_55 := cdE _ _ _
def c13_57 : EC := .sq c13_52 c13_56
@[simp] theorem c13_57e : Sq c13_57 c13_52 c13_56 := sqE _ _
def c13_58 : EC := .cd (t 127) c13_51 c13_57
@[simp] theorem c13_58e : Cd c13_58 (t 127) c13_51 c13_57 := cdE _ _ _
def c13_59 : EC := .sq c13_50 c13_58
@[simp] theorem c13_59e : Sq c13_59 c13_50 c13_58 := sqE _ _
def c13_60 : EC := .cd (t 121) c13_49 c13_59
@[simp] theorem c13_60e : Cd c13_60 (t 121) c13_49 c13_59 := cdE _ _ _
def c13_61 : EC := .sq c13_48 c13_60
@[simp] theorem c13_61e : Sq c13_61 c13_48 c13_60 := sqE _ _
def c13_62 : EC := .cd (t 115) c13_47 c13_61
@[simp] theorem c13_62e : Cd c13_62 (t 115) c13_47 c13_61 := cdE _ _ _
def c13_63 : EC := .sq c13_46 c13_62
@[simp] theorem c13_63e : Sq c13_63 c13_46 c13_62 := sqE _ _
def c13_64 : EC := .cd (t 109) c13_45 c13_63
@[simp] theorem c13_64e : Cd c13_64 (t 109) c13_45 c13_63 := cdE _ _ _
def c13_65 : EC := .sq c13_44 c13_64
@[simp] theorem c13_65e : Sq c13_65 c13_44 c13_64 := sqE _ _
def c13_66 : EC := .cd (t 103) c13_43 c13_65
@[simp] theorem c13_66e : Cd c13_66 (t 103) c13_43 c13_65 := cdE _ _ _
def c13_67 : EC := .sq c13_42 c13_66
@[simp] theorem c13_67e : Sq c13_67 c13_42 c13_66 := sqE _ _
def c13_68 : EC := .cd (t 94) c13_41 c13_67
@[simp] theorem c13_68e : Cd c13_68 (t 94) c13_41 c13_67 := cdE _ _ _
def c13_69 : EC := .sq c13_40 c13_68
@[simp] theorem c13_69e : Sq c13_69 c13_40 c13_68 := sqE _ _
def c13_70 : EC := .cd (t 85) c13_39 c13_69
@[simp] theorem c13_70e : Cd c13_70 (t 85) c13_39 c13_69 := cdE _ _ _
def c13_71 : EC := .sq c13_38 c13_70
@[simp] theorem c13_71e : Sq c13_71 c13_38 c13_70 := sqE _ _
def c13_72 : EC := .cd (t 80) c13_37 c13_71
@[simp] theorem c13_72e : Cd c13_72 (t 80) c13_37 c13_71 := cdE _ _ _
def c13_73 : EC := .sq c13_36 c13_72
@[simp] theorem c13_73e : Sq c13_73 c13_36 c13_72 := sqE _ _
def c13_74 : EC := .cd (t 75) c13_35 c13_73
@[simp] theorem c13_74e : Cd c13_74 (t 75) c13_35 c13_73 := cdE _ _ _
def c13_75 : EC := .sq c13_34 c13_74
@[simp] theorem c13_75e : Sq c13_75 c13_34 c13_74 := sqE _ _
def c13_76 : EC := .cd (t 68) c13_33 c13_75
@[simp] theorem c13_76e : Cd c13_76 (t 68) c13_33 c13_75 := cdE _ _ _
def c13_77 : EC := .sq c13_31 c13_76
@[simp] theorem c13_77e : Sq c13_77 c13_31 c13_76 := sqE _ _
def c13_78 : EC := .cd (t 63) c13_30 c13_77
@[simp] theorem c13_78e : Cd c13_78 (t 63) c13_30 c13_77 := cdE _ _ _
def c13_79 : EC := .sq c13_29 c13_78
@[simp] theorem c13_79e : Sq c13_79 c13_29 c13_78 := sqE _ _
def c13_80 : EC := .cd (t 58) c13_28 c13_79
@[simp] theorem c13_80e : Cd c13_80 (t 58) c13_28 c13_79 := cdE _ _ _
def c13_81 : EC := .sq c13_27 c13_80
@[simp] theorem c13_81e : Sq c13_81 c13_27 c13_80 := sqE _ _
def c13_82 : EC := .cd (t 35) c13_26 c13_81
@[simp] theorem c13_82e : Cd c13_82 (t 35) c13_26 c13_81 := cdE _ _ _
def c13_83 : EC := .sq c13_14 c13_82
@[simp] theorem c13_83e : Sq c13_83 c13_14 c13_82 := sqE _ _
def c13_84 : EC := .cd (t 30) c13_13 c13_83
@[simp] theorem c13_84e : Cd c13_84 (t 30) c13_13 c13_83 := cdE _ _ _
def c13_85 : EC := .sq c13_12 c13_84
@[simp] theorem c13_85e : Sq c13_85 c13_12 c13_84 := sqE _ _
def c13_86 : EC := .cd (t 24) c13_11 c13_85
@[simp] theorem c13_86e : Cd c13_86 (t 24) c13_11 c13_85 := cdE _ _ _
def c13_87 : EC := .sq c13_10 c13_86
@[simp] theorem c13_87e : Sq c13_87 c13_10 c13_86 := sqE _ _
def c13_88 : EC := .cd (t 20) c13_9 c13_87
@[simp] theorem c13_88e : Cd c13_88 (t 20) c13_9 c13_87 := cdE _ _ _
def c13_89 : EC := .sq c13_8 c13_88
@[simp] theorem c13_89e : Sq c13_89 c13_8 c13_88 := sqE _ _
def c13_90 : EC := .bk 0 c13_89
@[simp] theorem c13_90e : Bk c13_90 0 c13_89 := bkE _ _
def c13_91 : EC := .sq c13_7 c13_90
@[simp] theorem c13_91e : Sq c13_91 c13_7 c13_90 := sqE _ _
@[simp] def c13_92l : List EO := [m 139 10,
 o 140 (.call 45) [t 139],
 o 141 (.un .not) [t 140]]
def c13_92 : EC := .rg c13_92l false
@[simp] theorem c13_92e : Rg c13_92 c13_92l false := rgE _ _
@[simp] def c13_93l : List EO := [o 8 .mv [i 0],
 o 9 .mv [b false]]
def c13_93 : EC := .rg c13_93l false
@[simp] theorem c13_93e : Rg c13_93 c13_93l false := rgE _ _
def c13_94 : EC := .sq c13_93 .rt
@[simp] theorem c13_94e : Sq c13_94 c13_93 .rt := sqE _ _
def c13_95 : EC := .cd (t 141) c13_94 .skip
@[simp] theorem c13_95e : Cd c13_95 (t 141) c13_94 .skip := cdE _ _ _
def c13_96 : EC := .sq c13_92 c13_95
@[simp] theorem c13_96e : Sq c13_96 c13_92 c13_95 := sqE _ _
@[simp] def c13_97l : List EO := [m 142 10,
 m 8 142,
 o 9 .mv [b true]]
def c13_97 : EC := .rg c13_97l false
@[simp] theorem c13_97e : Rg c13_97 c13_97l false := rgE _ _
def c13_98 : EC := .sq c13_97 .rt
@[simp] theorem c13_98e : Sq c13_98 c13_97 .rt := sqE _ _
def c13_99 : EC := .sq c13_96 c13_98
@[simp] theorem c13_99e : Sq c13_99 c13_96 c13_98 := sqE _ _
def c13_100 : EC := .sq c13_91 c13_99
@[simp] theorem c13_100e : Sq c13_100 c13_91 c13_99 := sqE _ _
def c13_101 : EC := .sq c13_6 c13_100
@[simp] theorem c13_101e : Sq c13_101 c13_6 c13_100 := sqE _ _
def c13_102 : EC := .sq c13_5 c13_101
@[simp] theorem c13_102e : Sq c13_102 c13_5 c13_101 := sqE _ _
def c13_103 : EC := .sq c13_0 c13_102
@[simp] theorem c13_103e : Sq c13_103 c13_0 c13_102 := sqE _ _
def c_compile_Operate_13 : EC := c13_103
theorem k_13 : ecF Tryd.prog 13 = some (143, c_compile_Operate_13, [.tm 8, .tm 9]) := by kernel_rfl
end Go.Proofs.YtkapabohpfkcoaaDoor
