/- The code of the functions of this seat, as the engine reads it; printed by program out of the translation, checked by the kernel. -/
import Derived.Test.YtkapabohpfkcoaaDoorEd
import Derived.Test.YtkapabohpfkcoaaDoorProg
set_option linter.unusedSimpArgs false
set_option linter.unusedVariables false
namespace Go.Proofs.YtkapabohpfkcoaaDoor
open Go.Proofs E E.Z
variable {P : Program} {nb nt : Nat} {Q : Ex → Fr → St → Prop} {a : Fr} {S : St}
/-- tallystone/tallystonelaw34.CompileOperates -/
@[simp] def c3_0l : List EO := [o 5 .box [t 2],
 o 6 .mv [b false]]
def c3_0 : EC := .rg c3_0l false
@[simp] theorem c3_0e : Rg c3_0 c3_0l false := rgE _ _
@[simp] def c3_1l : List EO := [o 11 (.call 12) [],
 o 12 (.un .not) [t 11]]
def c3_1 : EC := .rg c3_1l false
@[simp] theorem c3_1e : Rg c3_1 c3_1l false := rgE _ _
@[simp] def c3_2l : List EO := [o 6 .mv [b false]]
def c3_2 : EC := .rg c3_2l false
@[simp] theorem c3_2e : Rg c3_2 c3_2l false := rgE _ _
def c3_3 : EC := .sq c3_2 .rt
@[simp] theorem c3_3e : Sq c3_3 c3_2 .rt := sqE _ _
def c3_4 : EC := .cd (t 12) c3_3 .skip
@[simp] theorem c3_4e : Cd c3_4 (t 12) c3_3 .skip := cdE _ _ _
def c3_5 : EC := .sq c3_1 c3_4
@[simp] theorem c3_5e : Sq c3_5 c3_1 c3_4 := sqE _ _
@[simp] def c3_6l : List EO := [m 14 0,
 m 15 1,
 o 16 (.iaA 2 1) [t 5, i 0],
 o 17 (.load 1 false) [t 16],
 o 18 (.iaA 2 1) [t 5, i 1],
 o 19 (.load 1 false) [t 18],
 o 20 (.call 13) [t 14, t 15, t 17, t 19],
 m 13 20,
 o 21 (.ext 0) [t 13],
 o 22 (.ext 1) [t 13],
 m 7 21,
 m 8 22]
def c3_6 : EC := .rg c3_6l false
@[simp] theorem c3_6e : Rg c3_6 c3_6l false := rgE _ _
@[simp] def c3_7l : List EO := [m 24 0,
 m 25 1,
 o 26 (.iaA 2 1) [t 5, i 0],
 o 27 (.load 1 false) [t 26],
 o 28 (.iaA 2 1) [t 5, i 1],
 o 29 (.load 1 false) [t 28],
 o 30 (.call 14) [t 24, t 25, t 27, t 29],
 m 23 30,
 o 31 (.ext 0) [t 23],
 o 32 (.ext 1) [t 23],
 m 9 31,
 m 10 32]
def c3_7 : EC := .rg c3_7l false
@[simp] theorem c3_7e : Rg c3_7 c3_7l false := rgE _ _
@[simp] def c3_8l : List EO := [m 33 7,
 m 34 9,
 o 35 (.bin .eql) [t 33, t 34],
 m 36 35,
 y 37 36 .mv [t 8],
 y 38 36 .mv [t 10],
 y 39 36 (.eqv false false [0]) [t 37, t 38],
 o 40 .pick [t 36, t 39, b false],
 m 6 40]
def c3_8 : EC := .rg c3_8l false
@[simp] theorem c3_8e : Rg c3_8 c3_8l false := rgE _ _
def c3_9 : EC := .sq c3_8 .rt
@[simp] theorem c3_9e : Sq c3_9 c3_8 .rt := sqE _ _
def c3_10 : EC := .sq c3_7 c3_9
@[simp] theorem c3_10e : Sq c3_10 c3_7 c3_9 := sqE _ _
def c3_11 : EC := .sq c3_6 c3_10
@[simp] theorem c3_11e : Sq c3_11 c3_6 c3_10 := sqE _ _
def c3_12 : EC := .sq c3_5 c3_11
@[simp] theorem c3_12e : Sq c3_12 c3_5 c3_11 := sqE _ _
def c3_13 : EC := .sq c3_0 c3_12
@[simp] theorem c3_13e : Sq c3_13 c3_0 c3_12 := sqE _ _
def c_tallystonelaw34_CompileOperates_3 : EC := c3_13
theorem k_3 : ecF Tryd.prog 3 = some (41, c_tallystonelaw34_CompileOperates_3, [.tm 6]) := by kernel_rfl

/-- tallystone/tallystonelaw34.CompileOrders -/
@[simp] def c4_0l : List EO := [o 4 .mv [b false]]
def c4_0 : EC := .rg c4_0l false
@[simp] theorem c4_0e : Rg c4_0 c4_0l false := rgE _ _
@[simp] def c4_1l : List EO := [o 25 (.call 12) [],
 o 26 (.un .not) [t 25]]
def c4_1 : EC := .rg c4_1l false
@[simp] theorem c4_1e : Rg c4_1 c4_1l false := rgE _ _
@[simp] def c4_2l : List EO := [o 4 .mv [b false]]
def c4_2 : EC := .rg c4_2l false
@[simp] theorem c4_2e : Rg c4_2 c4_2l false := rgE _ _
def c4_3 : EC := .sq c4_2 .rt
@[simp] theorem c4_3e : Sq c4_3 c4_2 .rt := sqE _ _
def c4_4 : EC := .cd (t 26) c4_3 .skip
@[simp] theorem c4_4e : Cd c4_4 (t 26) c4_3 .skip := cdE _ _ _
def c4_5 : EC := .sq c4_1 c4_4
@[simp] theorem c4_5e : Sq c4_5 c4_1 c4_4 := sqE _ _
@[simp] def c4_6l : List EO := [m 27 0,
 o 28 (.call 15) [t 27],
 o 29 (.un .not) [t 28],
 m 30 29,
 n 31 30 .mv [t 1],
 n 32 30 (.call 15) [t 31],
 n 33 30 (.un .not) [t 32],
 o 34 .pick [t 30, b true, t 33]]
def c4_6 : EC := .rg c4_6l false
@[simp] theorem c4_6e : Rg c4_6 c4_6l false := rgE _ _
@[simp] def c4_7l : List EO := [o 4 .mv [b true]]
def c4_7 : EC := .rg c4_7l false
@[simp] theorem c4_7e : Rg c4_7 c4_7l false := rgE _ _
def c4_8 : EC := .sq c4_7 .rt
@[simp] theorem c4_8e : Sq c4_8 c4_7 .rt := sqE _ _
def c4_9 : EC := .cd (t 34) c4_8 .skip
@[simp] theorem c4_9e : Cd c4_9 (t 34) c4_8 .skip := cdE _ _ _
def c4_10 : EC := .sq c4_6 c4_9
@[simp] theorem c4_10e : Sq c4_10 c4_6 c4_9 := sqE _ _
@[simp] def c4_11l : List EO := [o 35 (.bsl 1) [i 10, i 12, i 13, i 14, i 15, i 16, i 19, i 20],
 m 5 35]
def c4_11 : EC := .rg c4_11l false
@[simp] theorem c4_11e : Rg c4_11 c4_11l false := rgE _ _
@[simp] def c4_12l : List EO := [o 6 .mv [i 0]]
def c4_12 : EC := .rg c4_12l false
@[simp] theorem c4_12e : Rg c4_12 c4_12l false := rgE _ _
@[simp] def c4_13l : List EO := [m 36 6,
 m 37 5,
 o 38 .lenL [t 37],
 o 39 (.bin .lss) [t 36, t 38]]
def c4_13 : EC := .rg c4_13l false
@[simp] theorem c4_13e : Rg c4_13 c4_13l false := rgE _ _
def c4_14 : EC := .cd (t 39) .skip (.ex 0)
@[simp] theorem c4_14e : Cd c4_14 (t 39) .skip (.ex 0) := cdE _ _ _
def c4_15 : EC := .sq c4_13 c4_14
@[simp] theorem c4_15e : Sq c4_15 c4_13 c4_14 := sqE _ _
@[simp] def c4_16l : List EO := [m 43 5,
 m 44 6,
 o 45 (.iaS 1) [t 43, t 44],
 o 46 (.load 1 false) [t 45],
 m 47 0,
 m 48 1,
 o 49 (.call 13) [t 46, i 0, t 47, t 48],
 m 42 49,
 o 50 (.ext 0) [t 42],
 o 51 (.ext 1) [t 42],
 m 7 50,
 m 8 51]
def c4_16 : EC := .rg c4_16l false
@[simp] theorem c4_16e : Rg c4_16 c4_16l false := rgE _ _
@[simp] def c4_17l : List EO := [m 53 5,
 m 54 6,
 o 55 (.iaS 1) [t 53, t 54],
 o 56 (.load 1 false) [t 55],
 m 57 1,
 m 58 0,
 o 59 (.call 13) [t 56, i 0, t 57, t 58],
 m 52 59,
 o 60 (.ext 0) [t 52],
 o 61 (.ext 1) [t 52],
 m 9 60,
 m 10 61]
def c4_17 : EC := .rg c4_17l false
@[simp] theorem c4_17e : Rg c4_17 c4_17l false := rgE _ _
@[simp] def c4_18l : List EO := [m 62 7,
 m 63 9,
 o 64 (.bin .neq) [t 62, t 63],
 m 65 64,
 n 66 65 .mv [t 8],
 n 67 65 .mv [t 10],
 n 68 65 (.eqv true false [0]) [t 66, t 67],
 o 69 .pick [t 65, b true, t 68]]
def c4_18 : EC := .rg c4_18l false
@[simp] theorem c4_18e : Rg c4_18 c4_18l false := rgE _ _
@[simp] def c4_19l : List EO := [o 4 .mv [b false]]
def c4_19 : EC := .rg c4_19l false
@[simp] theorem c4_19e : Rg c4_19 c4_19l false := rgE _ _
def c4_20 : EC := .sq c4_19 .rt
@[simp] theorem c4_20e : Sq c4_20 c4_19 .rt := sqE _ _
def c4_21 : EC := .cd (t 69) c4_20 .skip
@[simp] theorem c4_21e : Cd c4_21 (t 69) c4_20 .skip := cdE _ _ _
def c4_22 : EC := .sq c4_18 c4_21
@[simp] theorem c4_22e : Sq c4_22 c4_18 c4_21 := sqE _ _
def c4_23 : EC := .sq c4_17 c4_22
@[simp] theorem c4_23e : Sq c4_23 c4_17 c4_22 := sqE _ _
def c4_24 : EC := .sq c4_16 c4_23
@[simp] theorem c4_24e : Sq c4_24 c4_16 c4_23 := sqE _ _
def c4_25 : EC := .bk 1 c4_24
@[simp] theorem c4_25e : Bk c4_25 1 c4_24 := bkE _ _
@[simp] def c4_26l : List EO := [m 40 6,
 o 41 (.bin .add) [t 40, i 1],
 m 6 41]
def c4_26 : EC := .rg c4_26l false
@[simp] theorem c4_26e : Rg c4_26 c4_26l false := rgE _ _
def c4_27 : EC := .sq c4_25 c4_26
@[simp] theorem c4_27e : Sq c4_27 c4_25 c4_26 := sqE _ _
def c4_28 : EC := .sq c4_15 c4_27
@[simp] theorem c4_28e : Sq c4_28 c4_15 c4_27 := sqE _ _
def c4_29 : EC := .bk 0 (.lp c4_28)
@[simp] theorem c4_29e : Bk c4_29 0 (.lp c4_28) := bkE _ _
def c4_30 : EC := .sq c4_12 c4_29
@[simp] theorem c4_30e : Sq c4_30 c4_12 c4_29 := sqE _ _
@[simp] def c4_31l : List EO := [m 71 0,
 m 72 1,
 o 73 (.call 13) [i 17, i 0, t 71, t 72],
 m 70 73,
 o 74 (.ext 0) [t 70],
 o 75 (.ext 1) [t 70],
 m 11 74,
 m 12 75]
def c4_31 : EC := .rg c4_31l false
@[simp] theorem c4_31e : Rg c4_31 c4_31l false := rgE _ _
@[simp] def c4_32l : List EO := [m 77 0,
 m 78 1,
 o 79 (.call 13) [i 19, i 0, t 77, t 78],
 m 76 79,
 o 80 (.ext 0) [t 76],
 o 81 (.ext 1) [t 76],
 m 13 80,
 m 14 81]
def c4_32 : EC := .rg c4_32l false
@[simp] theorem c4_32e : Rg c4_32 c4_32l false := rgE _ _
@[simp] def c4_33l : List EO := [m 83 0,
 m 84 1,
 o 85 (.call 13) [i 22, i 0, t 83, t 84],
 m 82 85,
 o 86 (.ext 0) [t 82],
 o 87 (.ext 1) [t 82],
 m 15 86,
 m 16 87]
def c4_33 : EC := .rg c4_33l false
@[simp] theorem c4_33e : Rg c4_33 c4_33l false := rgE _ _
@[simp] def c4_34l : List EO := [m 89 0,
 m 90 1,
 o 91 (.call 13) [i 18, i 0, t 89, t 90],
 m 88 91,
 o 92 (.ext 0) [t 88],
 o 93 (.ext 1) [t 88],
 m 17 92,
 m 18 93]
def c4_34 : EC := .rg c4_34l false
@[simp] theorem c4_34e : Rg c4_34 c4_34l false := rgE _ _
@[simp] def c4_35l : List EO := [m 95 15,
 o 96 (.call 13) [i 8, i 0, t 95, i 0],
 m 94 96,
 o 97 (.ext 0) [t 94],
 o 98 (.ext 1) [t 94],
 m 19 97,
 m 20 98]
def c4_35 : EC := .rg c4_35l false
@[simp] theorem c4_35e : Rg c4_35 c4_35l false := rgE _ _
@[simp] def c4_36l : List EO := [m 100 0,
 m 101 1,
 o 102 (.call 13) [i 13, i 0, t 100, t 101],
 m 99 102,
 o 103 (.ext 0) [t 99],
 o 104 (.ext 1) [t 99],
 m 21 103,
 m 22 104]
def c4_36 : EC := .rg c4_36l false
@[simp] theorem c4_36e : Rg c4_36 c4_36l false := rgE _ _
@[simp] def c4_37l : List EO := [m 106 0,
 m 107 1,
 o 108 (.call 13) [i 14, i 0, t 106, t 107],
 m 105 108,
 o 109 (.ext 0) [t 105],
 o 110 (.ext 1) [t 105],
 m 23 109,
 m 24 110]
def c4_37 : EC := .rg c4_37l false
@[simp] theorem c4_37e : Rg c4_37 c4_37l false := rgE _ _
@[simp] def c4_38l : List EO := [m 111 11,
 m 112 13,
 o 113 (.bin .add) [t 111, t 112],
 m 114 15,
 o 115 (.bin .add) [t 113, t 114],
 o 116 (.bin .eql) [t 115, i 1],
 m 117 116,
 y 118 117 .mv [t 17],
 y 119 117 .mv [t 19],
 y 120 117 (.bin .eql) [t 118, t 119],
 o 121 .pick [t 117, t 120, b false],
 m 122 121,
 y 123 122 .mv [t 21],
 y 124 122 .mv [t 23],
 y 125 122 (.bin .add) [t 123, t 124],
 y 126 122 .mv [t 0],
 y 127 122 .mv [t 1],
 y 128 122 (.bin .add) [t 126, t 127],
 y 129 122 (.bin .eql) [t 125, t 128],
 o 130 .pick [t 122, t 129, b false],
 m 131 130,
 y 132 131 .mv [t 21],
 y 133 131 .mv [t 23],
 y 134 131 (.bin .leq) [t 132, t 133],
 o 135 .pick [t 131, t 134, b false],
 m 4 135]
def c4_38 : EC := .rg c4_38l false
@[simp] theorem c4_38e : Rg c4_38 c4_38l false := rgE _ _
def c4_39 : EC := .sq c4_38 .rt
@[simp] theorem c4_39e : Sq c4_39 c4_38 .rt := sqE _ _
def c4_40 : EC := .sq c4_37 c4_39
@[simp] theorem c4_40e : Sq c4_40 c4_37 c4_39 := sqE _ _
def c4_41 : EC := .sq c4_36 c4_40
@[simp] theorem c4_41e : Sq c4_41 c4_36 c4_40 := sqE _ _
def c4_42 : EC := .sq c4_35 c4_41
@[simp] theorem c4_42e : Sq c4_42 c4_35 c4_41 := sqE _ _
def c4_43 : EC := .sq c4_34 c4_42
@[simp] theorem c4_43e : Sq c4_43 c4_34 c4_42 := sqE _ _
def c4_44 : EC := .sq c4_33 c4_43
@[simp] theorem c4_44e : Sq c4_44 c4_33 c4_43 := sqE _ _
def c4_45 : EC := .sq c4_32 c4_44
@[simp] theorem c4_45e : Sq c4_45 c4_32 c4_44 := sqE _ _
def c4_46 : EC := .sq c4_31 c4_45
@[simp] theorem c4_46e : Sq c4_46 c4_31 c4_45 := sqE _ _
def c4_47 : EC := .sq c4_30 c4_46
@[simp] theorem c4_47e : Sq c4_47 c4_30 c4_46 := sqE _ _
def c4_48 : EC := .sq c4_11 c4_47
@[simp] theorem c4_48e : Sq c4_48 c4_11 c4_47 := sqE _ _
def c4_49 : EC := .sq c4_10 c4_48
@[simp] theorem c4_49e : Sq c4_49 c4_10 c4_48 := sqE _ _
def c4_50 : EC := .sq c4_5 c4_49
@[simp] theorem c4_50e : Sq c4_50 c4_5 c4_49 := sqE _ _
def c4_51 : EC := .sq c4_0 c4_50
@[simp] theorem c4_51e : Sq c4_51 c4_0 c4_50 := sqE _ _
def c_tallystonelaw34_CompileOrders_4 : EC := c4_51
theorem k_4 : ecF Tryd.prog 4 = some (136, c_tallystonelaw34_CompileOrders_4, [.tm 4]) := by kernel_rfl

/-- tallystone/tallystonelaw34.CompileValid -/
@[simp] def c6_0l : List EO := [o 2 .box [t 0],
 o 3 .box [t 1],
 o 4 .mv [b false]]
def c6_0 : EC := .rg c6_0l false
@[simp] theorem c6_0e : Rg c6_0 c6_0l false := rgE _ _
@[simp] def c6_1l : List EO := [o 14 (.call 12) [],
 o 15 (.un .not) [t 14]]
def c6_1 : EC := .rg c6_1l false
@[simp] theorem c6_1e : Rg c6_1 c6_1l false := rgE _ _
@[simp] def c6_2l : List EO := [o 4 .mv [b false]]
def c6_2 : EC := .rg c6_2l false
@[simp] theorem c6_2e : Rg c6_2 c6_2l false := rgE _ _
def c6_3 : EC := .sq c6_2 .rt
@[simp] theorem c6_3e : Sq c6_3 c6_2 .rt := sqE _ _
def c6_4 : EC := .cd (t 15) c6_3 .skip
@[simp] theorem c6_4e : Cd c6_4 (t 15) c6_3 .skip := cdE _ _ _
def c6_5 : EC := .sq c6_1 c6_4
@[simp] theorem c6_5e : Sq c6_5 c6_1 c6_4 := sqE _ _
@[simp] def c6_6l : List EO := [o 16 (.load 3 true) [t 2],
 o 17 (.call 21) [t 16],
 o 18 (.un .not) [t 17],
 m 19 18,
 n 20 19 (.load 3 true) [t 3],
 n 21 19 (.call 21) [t 20],
 n 22 19 (.un .not) [t 21],
 o 23 .pick [t 19, b true, t 22]]
def c6_6 : EC := .rg c6_6l false
@[simp] theorem c6_6e : Rg c6_6 c6_6l false := rgE _ _
@[simp] def c6_7l : List EO := [o 4 .mv [b true]]
def c6_7 : EC := .rg c6_7l false
@[simp] theorem c6_7e : Rg c6_7 c6_7l false := rgE _ _
def c6_8 : EC := .sq c6_7 .rt
@[simp] theorem c6_8e : Sq c6_8 c6_7 .rt := sqE _ _
def c6_9 : EC := .cd (t 23) c6_8 .skip
@[simp] theorem c6_9e : Cd c6_9 (t 23) c6_8 .skip := cdE _ _ _
def c6_10 : EC := .sq c6_6 c6_9
@[simp] theorem c6_10e : Sq c6_10 c6_6 c6_9 := sqE _ _
@[simp] def c6_11l : List EO := [o 24 (.load 3 true) [t 2],
 o 25 (.call 22) [t 24],
 o 5 (.alloc [.t (.str []), .t (.bool false), .snil]) [],
 u (.store 3) [t 5, t 25]]
def c6_11 : EC := .rg c6_11l false
@[simp] theorem c6_11e : Rg c6_11 c6_11l false := rgE _ _
@[simp] def c6_12l : List EO := [o 27 (.load 3 true) [t 5],
 o 28 (.call 23) [t 27],
 m 26 28,
 o 29 (.ext 0) [t 26],
 o 30 (.ext 1) [t 26],
 m 6 29,
 m 7 30]
def c6_12 : EC := .rg c6_12l false
@[simp] theorem c6_12e : Rg c6_12 c6_12l false := rgE _ _
@[simp] def c6_13l : List EO := [o 32 (.load 3 true) [t 2],
 o 33 (.call 24) [t 32],
 m 31 33,
 o 34 (.ext 0) [t 31],
 o 35 (.ext 1) [t 31],
 m 8 34,
 m 9 35]
def c6_13 : EC := .rg c6_13l false
@[simp] theorem c6_13e : Rg c6_13 c6_13l false := rgE _ _
@[simp] def c6_14l : List EO := [o 37 (.load 3 true) [t 5],
 o 38 (.call 25) [t 37],
 m 36 38,
 o 39 (.ext 0) [t 36],
 o 40 (.ext 1) [t 36],
 o 10 (.alloc [.t (.str []), .t (.bool false), .snil]) [],
 u (.store 3) [t 10, t 39],
 m 11 40]
def c6_14 : EC := .rg c6_14l false
@[simp] theorem c6_14e : Rg c6_14 c6_14l false := rgE _ _
@[simp] def c6_15l : List EO := [o 42 (.load 3 true) [t 5],
 o 43 (.call 26) [t 42],
 m 41 43,
 o 44 (.ext 0) [t 41],
 o 45 (.ext 1) [t 41],
 m 12 44,
 m 13 45]
def c6_15 : EC := .rg c6_15l false
@[simp] theorem c6_15e : Rg c6_15 c6_15l false := rgE _ _
@[simp] def c6_16l : List EO := [o 46 (.load 3 true) [t 5],
 o 47 (.call 27) [t 46],
 o 48 (.load 3 true) [t 2],
 o 49 (.call 28) [t 48],
 o 50 (.eqv true false [0]) [t 47, t 49],
 m 51 50,
 n 52 51 .mv [t 6],
 n 53 51 .mv [t 8],
 n 54 51 (.bin .neq) [t 52, t 53],
 o 55 .pick [t 51, b true, t 54],
 m 56 55,
 n 57 56 .mv [t 7],
 n 58 56 .mv [t 9],
 n 59 56 (.bin .neq) [t 57, t 58],
 o 60 .pick [t 56, b true, t 59],
 m 61 60,
 n 62 61 (.load 3 true) [t 5],
 n 63 61 (.load 3 true) [t 3],
 n 64 61 (.call 22) [t 63],
 n 65 61 (.call 29) [t 62, t 64],
 n 66 61 (.load 3 true) [t 2],
 n 67 61 (.load 3 true) [t 3],
 n 68 61 (.call 30) [t 66, t 67],
 n 69 61 (.eqv true false [0]) [t 65, t 68],
 o 70 .pick [t 61, b true, t 69],
 m 71 70,
 n 72 71 (.load 3 true) [t 5],
 n 73 71 (.load 3 true) [t 5],
 n 74 71 (.call 29) [t 72, t 73],
 n 75 71 (.un .not) [t 74],
 o 76 .pick [t 71, b true, t 75]]
def c6_16 : EC := .rg c6_16l true
@[simp] theorem c6_16e : Rg c6_16 c6_16l true := rgE _ _
@[simp] def c6_17l : List EO := [o 4 .mv [b false]]
def c6_17 : EC := .rg c6_17l false
@[simp] theorem c6_17e : Rg c6_17 c6_17l false := rgE _ _
def c6_18 : EC := .sq c6_17 .rt
@[simp] theorem c6_18e : Sq c6_18 c6_17 .rt := sqE _ _
def c6_19 : EC := .cd (t 76) c6_18 .skip
@[simp] theorem c6_19e : Cd c6_19 (t 76) c6_18 .skip := cdE _ _ _
def c6_20 : EC := .sq c6_16 c6_19
@[simp] theorem c6_20e : Sq c6_20 c6_16 c6_19 := sqE _ _
@[simp] def c6_21l : List EO := [o 77 (.load 3 true) [t 2],
 o 78 (.call 28) [t 77],
 o 79 (.un .not) [t 78]]
def c6_21 : EC := .rg c6_21l false
@[simp] theorem c6_21e : Rg c6_21 c6_21l false := rgE _ _
@[simp] def c6_22l : List EO := [m 80 11,
 o 81 (.bin .eql) [t 80, i 1],
 m 82 81,
 y 83 82 .mv [t 13],
 y 84 82 (.bin .eql) [t 83, i 1],
 o 85 .pick [t 82, t 84, b false],
 m 86 85,
 y 87 86 .mv [t 12],
 y 88 86 (.bin .eql) [t 87, c (.t (.str []))],
 o 89 .pick [t 86, t 88, b false],
 m 90 89,
 y 91 90 (.load 3 true) [t 10],
 y 92 90 (.build [.t (.str []), .t (.bool false), .snil] []) [],
 y 93 90 (.call 29) [t 91, t 92],
 o 94 .pick [t 90, t 93, b false],
 m 4 94]
def c6_22 : EC := .rg c6_22l false
@[simp] theorem c6_22e : Rg c6_22 c6_22l false := rgE _ _
def c6_23 : EC := .sq c6_22 .rt
@[simp] theorem c6_23e : Sq c6_23 c6_22 .rt := sqE _ _
def c6_24 : EC := .cd (t 79) c6_23 .skip
@[simp] theorem c6_24e : Cd c6_24 (t 79) c6_23 .skip := cdE _ _ _
def c6_25 : EC := .sq c6_21 c6_24
@[simp] theorem c6_25e : Sq c6_25 c6_21 c6_24 := sqE _ _
@[simp] def c6_26l : List EO := [m 95 11,
 o 96 (.bin .eql) [t 95, i 0],
 m 97 96,
 y 98 97 .mv [t 13],
 y 99 97 (.bin .eql) [t 98, i 0],
 o 100 .pick [t 97, t 99, b false],
 m 101 100,
 y 102 101 .mv [t 12],
 y 103 101 (.load 3 true) [t 2],
 y 104 101 (.call 31) [t 103],
 y 105 101 (.bin .eql) [t 102, t 104],
 o 106 .pick [t 101, t 105, b false],
 m 107 106,
 y 108 107 (.load 3 true) [t 10],
 y 109 107 (.load 3 true) [t 2],
 y 110 107 (.call 32) [t 109],
 y 111 107 (.call 22) [t 110],
 y 112 107 (.call 29) [t 108, t 111],
 o 113 .pick [t 107, t 112, b false],
 m 4 113]
def c6_26 : EC := .rg c6_26l true
@[simp] theorem c6_26e : Rg c6_26 c6_26l true := rgE _ _
def c6_27 : EC := .sq c6_26 .rt
@[simp] theorem c6_27e : Sq c6_27 c6_26 .rt := sqE _ _
def c6_28 : EC := .sq c6_25 c6_27
@[simp] theorem c6_28e : Sq c6_28 c6_25 c6_27 := sqE _ _
def c6_29 : EC := .sq c6_20 c6_28
@[simp] theorem c6_29e : Sq c6_29 c6_20 c6_28 := sqE _ _
def c6_30 : EC := .sq c6_15 c6_29
@[simp] theorem c6_30e : Sq c6_30 c6_15 c6_29 := sqE _ _
def c6_31 : EC := .sq c6_14 c6_30
@[simp] theorem c6_31e : Sq c6_31 c6_14 c6_30 := sqE _ _
def c6_32 : EC := .sq c6_13 c6_31
@[simp] theorem c6_32e : Sq c6_32 c6_13 c6_31 := sqE _ _
def c6_33 : EC := .sq c6_12 c6_32
@[simp] theorem c6_33e : Sq c6_33 c6_12 c6_32 := sqE _ _
def c6_34 : EC := .sq c6_11 c6_33
@[simp] theorem c6_34e : Sq c6_34 c6_11 c6_33 := sqE _ _
def c6_35 : EC := .sq c6_10 c6_34
@[simp] theorem c6_35e : Sq c6_35 c6_10 c6_34 := sqE _ _
def c6_36 : EC := .sq c6_5 c6_35
@[simp] theorem c6_36e : Sq c6_36 c6_5 c6_35 := sqE _ _
def c6_37 : EC := .sq c6_0 c6_36
@[simp] theorem c6_37e : Sq c6_37 c6_0 c6_36 := sqE _ _
def c_tallystonelaw34_CompileValid_6 : EC := c6_37
theorem k_6 : ecF Tryd.prog 6 = some (114, c_tallystonelaw34_CompileValid_6, [.tm 4]) := by kernel_rfl

/-- tallystone/tallystonelaw34.CompileFolds -/
@[simp] def c7_0l : List EO := [o 1 .box [t 0],
 o 2 .mv [b false]]
def c7_0 : EC := .rg c7_0l false
@[simp] theorem c7_0e : Rg c7_0 c7_0l false := rgE _ _
@[simp] def c7_1l : List EO := [o 12 (.call 12) [],
 o 13 (.un .not) [t 12]]
def c7_1 : EC := .rg c7_1l false
@[simp] theorem c7_1e : Rg c7_1 c7_1l false := rgE _ _
@[simp] def c7_2l : List EO := [o 2 .mv [b false]]
def c7_2 : EC := .rg c7_2l false
@[simp] theorem c7_2e : Rg c7_2 c7_2l false := rgE _ _
def c7_3 : EC := .sq c7_2 .rt
@[simp] theorem c7_3e : Sq c7_3 c7_2 .rt := sqE _ _
def c7_4 : EC := .cd (t 13) c7_3 .skip
@[simp] theorem c7_4e : Cd c7_4 (t 13) c7_3 .skip := cdE _ _ _
def c7_5 : EC := .sq c7_1 c7_4
@[simp] theorem c7_5e : Sq c7_5 c7_1 c7_4 := sqE _ _
@[simp] def c7_6l : List EO := [o 14 (.load 3 true) [t 1],
 o 15 (.call 21) [t 14],
 o 16 (.un .not) [t 15]]
def c7_6 : EC := .rg c7_6l false
@[simp] theorem c7_6e : Rg c7_6 c7_6l false := rgE _ _
@[simp] def c7_7l : List EO := [o 2 .mv [b true]]
def c7_7 : EC := .rg c7_7l false
@[simp] theorem c7_7e : Rg c7_7 c7_7l false := rgE _ _
def c7_8 : EC := .sq c7_7 .rt
@[simp] theorem c7_8e : Sq c7_8 c7_7 .rt := sqE _ _
def c7_9 : EC := .cd (t 16) c7_8 .skip
@[simp] theorem c7_9e : Cd c7_9 (t 16) c7_8 .skip := cdE _ _ _
def c7_10 : EC := .sq c7_6 c7_9
@[simp] theorem c7_10e : Sq c7_10 c7_6 c7_9 := sqE _ _
@[simp] def c7_11l : List EO := [o 17 (.load 3 true) [t 1],
 o 18 (.call 22) [t 17],
 o 3 (.alloc [.t (.str []), .t (.bool false), .snil]) [],
 u (.store 3) [t 3, t 18]]
def c7_11 : EC := .rg c7_11l false
@[simp] theorem c7_11e : Rg c7_11 c7_11l false := rgE _ _
@[simp] def c7_12l : List EO := [o 20 (.load 3 true) [t 3],
 o 21 (.call 25) [t 20],
 m 19 21,
 o 22 (.ext 0) [t 19],
 o 23 (.ext 1) [t 19],
 o 4 (.alloc [.t (.str []), .t (.bool false), .snil]) [],
 u (.store 3) [t 4, t 22],
 m 5 23]
def c7_12 : EC := .rg c7_12l false
@[simp] theorem c7_12e : Rg c7_12 c7_12l false := rgE _ _
@[simp] def c7_13l : List EO := [o 24 (.load 3 true) [t 3],
 o 25 (.call 27) [t 24],
 o 26 (.un .not) [t 25]]
def c7_13 : EC := .rg c7_13l false
@[simp] theorem c7_13e : Rg c7_13 c7_13l false := rgE _ _
@[simp] def c7_14l : List EO := [m 27 5,
 o 28 (.bin .eql) [t 27, i 1],
 m 2 28]
def c7_14 : EC := .rg c7_14l false
@[simp] theorem c7_14e : Rg c7_14 c7_14l false := rgE _ _
def c7_15 : EC := .sq c7_14 .rt
@[simp] theorem c7_15e : Sq c7_15 c7_14 .rt := sqE _ _
def c7_16 : EC := .cd (t 26) c7_15 .skip
@[simp] theorem c7_16e : Cd c7_16 (t 26) c7_15 .skip := cdE _ _ _
def c7_17 : EC := .sq c7_13 c7_16
@[simp] theorem c7_17e : Sq c7_17 c7_13 c7_16 := sqE _ _
@[simp] def c7_18l : List EO := [o 30 (.load 3 true) [t 4],
 o 31 (.call 25) [t 30],
 m 29 31,
 o 32 (.ext 0) [t 29],
 o 33 (.ext 1) [t 29],
 o 6 (.alloc [.t (.str []), .t (.bool false), .snil]) [],
 u (.store 3) [t 6, t 32],
 m 7 33]
def c7_18 : EC := .rg c7_18l false
@[simp] theorem c7_18e : Rg c7_18 c7_18l false := rgE _ _
@[simp] def c7_19l : List EO := [o 35 (.load 3 true) [t 3],
 o 36 (.call 23) [t 35],
 m 34 36,
 o 37 (.ext 0) [t 34],
 o 38 (.ext 1) [t 34],
 m 8 37,
 m 9 38]
def c7_19 : EC := .rg c7_19l false
@[simp] theorem c7_19e : Rg c7_19 c7_19l false := rgE _ _
@[simp] def c7_20l : List EO := [o 40 (.load 3 true) [t 4],
 o 41 (.call 23) [t 40],
 m 39 41,
 o 42 (.ext 0) [t 39],
 o 43 (.ext 1) [t 39],
 m 10 42,
 m 11 43]
def c7_20 : EC := .rg c7_20l false
@[simp] theorem c7_20e : Rg c7_20 c7_20l false := rgE _ _
@[simp] def c7_21l : List EO := [m 44 5,
 o 45 (.bin .eql) [t 44, i 0],
 m 46 45,
 y 47 46 .mv [t 7],
 y 48 46 (.bin .eql) [t 47, i 0],
 o 49 .pick [t 46, t 48, b false],
 m 50 49,
 y 51 50 .mv [t 9],
 y 52 50 (.bin .eql) [t 51, i 0],
 o 53 .pick [t 50, t 52, b false],
 m 54 53,
 y 55 54 .mv [t 11],
 y 56 54 (.bin .eql) [t 55, i 0],
 o 57 .pick [t 54, t 56, b false],
 m 58 57,
 y 59 58 (.load 3 true) [t 4],
 y 60 58 (.call 27) [t 59],
 o 61 .pick [t 58, t 60, b false],
 m 62 61,
 y 63 62 (.load 3 true) [t 4],
 y 64 62 (.load 3 true) [t 6],
 y 65 62 (.call 29) [t 63, t 64],
 o 66 .pick [t 62, t 65, b false],
 m 67 66,
 y 68 67 (.faddr 2) [t 4],
 y 69 67 (.load 1 false) [t 68],
 y 70 67 .lenL [t 69],
 y 71 67 (.faddr 2) [t 3],
 y 72 67 (.load 1 false) [t 71],
 y 73 67 .lenL [t 72],
 y 74 67 (.bin .leq) [t 70, t 73],
 o 75 .pick [t 67, t 74, b false],
 m 76 75,
 y 77 76 .mv [t 10],
 y 78 76 .mv [t 8],
 y 79 76 (.bin .leq) [t 77, t 78],
 o 80 .pick [t 76, t 79, b false],
 m 2 80]
def c7_21 : EC := .rg c7_21l false
@[simp] theorem c7_21e : Rg c7_21 c7_21l false := rgE _ _
def c7_22 : EC := .sq c7_21 .rt
@[simp] theorem c7_22e : Sq c7_22 c7_21 .rt := sqE _ _
def c7_23 : EC := .sq c7_20 c7_22
@[simp] theorem c7_23e : Sq c7_23 c7_20 c7_22 := sqE _ _
def c7_24 : EC := .sq c7_19 c7_23
@[simp] theorem c7_24e : Sq c7_24 c7_19 c7_23 := sqE _ _
def c7_25 : EC := .sq c7_18 c7_24
@[simp] theorem c7_25e : Sq c7_25 c7_18 c7_24 := sqE _ _
def c7_26 : EC := .sq c7_17 c7_25
@[simp] theorem c7_26e : Sq c7_26 c7_17 c7_25 := sqE _ _
def c7_27 : EC := .sq c7_12 c7_26
@[simp] theorem c7_27e : Sq c7_27 c7_12 c7_26 := sqE _ _
def c7_28 : EC := .sq c7_11 c7_27
@[simp] theorem c7_28e : Sq c7_28 c7_11 c7_27 := sqE _ _
def c7_29 : EC := .sq c7_10 c7_28
@[simp] theorem c7_29e : Sq c7_29 c7_10 c7_28 := sqE _ _
def c7_30 : EC := .sq c7_5 c7_29
@[simp] theorem c7_30e : Sq c7_30 c7_5 c7_29 := sqE _ _
def c7_31 : EC := .sq c7_0 c7_30
@[simp] theorem c7_31e : Sq c7_31 c7_0 c7_30 := sqE _ _
def c_tallystonelaw34_CompileFolds_7 : EC := c7_31
theorem k_7 : ecF Tryd.prog 7 = some (81, c_tallystonelaw34_CompileFolds_7, [.tm 2]) := by kernel_rfl

/-- tallystone/tallystonelaw34.awake -/
@[simp] def c12_0l : List EO := [o 0 .mv [b false]]
def c12_0 : EC := .rg c12_0l false
@[simp] theorem c12_0e : Rg c12_0 c12_0l false := rgE _ _
@[simp] def c12_1l : List EO := [o 6 (.build [.t (.int .i64 0), .t (.int .i64 0), .t (.int .i64 0)] [(0, 1), (1, 1)]) [i 1, i 2],
 o 7 (.build [.t (.int .i64 0), .t (.int .i64 0), .t (.int .i64 0)] [(0, 1), (1, 1)]) [i 1, i 3],
 o 8 (.build [.t (.int .i64 0), .t (.int .i64 0), .t (.int .i64 0)] [(0, 1)]) [i 10],
 o 9 (.build [.t (.int .i64 0), .t (.int .i64 0), .t (.int .i64 0)] [(0, 1)]) [i 5],
 o 10 (.build [.t (.int .i64 0), .t (.int .i64 0), .t (.int .i64 0)] [(0, 1)]) [i 23],
 o 11 (.build [.t (.int .i64 0), .t (.int .i64 0), .t (.int .i64 0)] [(0, 1), (1, 1)]) [i 26, i 7],
 o 12 (.bsl 3) [t 6, t 7, t 8, t 9, t 10, t 11],
 o 13 (.build [.t (.str []), .t (.bool false), .snil] [(2, 1)]) [t 12],
 o 14 (.call 25) [t 13],
 m 5 14,
 o 15 (.ext 0) [t 5],
 o 16 (.ext 1) [t 5],
 o 1 (.alloc [.t (.str []), .t (.bool false), .snil]) [],
 u (.store 3) [t 1, t 15],
 m 2 16]
def c12_1 : EC := .rg c12_1l false
@[simp] theorem c12_1e : Rg c12_1 c12_1l false := rgE _ _
@[simp] def c12_2l : List EO := [o 18 (.load 3 true) [t 1],
 o 19 (.call 26) [t 18],
 m 17 19,
 o 20 (.ext 0) [t 17],
 o 21 (.ext 1) [t 17],
 m 3 20,
 m 4 21]
def c12_2 : EC := .rg c12_2l false
@[simp] theorem c12_2e : Rg c12_2 c12_2l false := rgE _ _
@[simp] def c12_3l : List EO := [m 22 2,
 o 23 (.bin .eql) [t 22, i 0],
 m 24 23,
 y 25 24 .mv [t 4],
 y 26 24 (.bin .eql) [t 25, i 0],
 o 27 .pick [t 24, t 26, b false],
 m 28 27,
 y 29 28 .mv [t 3],
 y 30 28 (.bin .eql) [t 29, c (.t (.str [112, 117, 115, 104, 32, 45, 53, 10, 115, 116, 111, 114, 101, 32, 48, 10, 116, 111, 32, 55, 10]))],
 o 31 .pick [t 28, t 30, b false],
 m 32 31,
 o 33 .pick [t 32, b true, b false],
 m 0 33]
def c12_3 : EC := .rg c12_3l false
@[simp] theorem c12_3e : Rg c12_3 c12_3l false := rgE _ _
def c12_4 : EC := .sq c12_3 .rt
@[simp] theorem c12_4e : Sq c12_4 c12_3 .rt := sqE _ _
def c12_5 : EC := .sq c12_2 c12_4
@[simp] theorem c12_5e : Sq c12_5 c12_2 c12_4 := sqE _ _
def c12_6 : EC := .sq c12_1 c12_5
@[simp] theorem c12_6e : Sq c12_6 c12_1 c12_5 := sqE _ _
def c12_7 : EC := .sq c12_0 c12_6
@[simp] theorem c12_7e : Sq c12_7 c12_0 c12_6 := sqE _ _
def c_tallystonelaw34_awake_12 : EC := c12_7
theorem k_12 : ecF Tryd.prog 12 = some (34, c_tallystonelaw34_awake_12, [.tm 0]) := by kernel_rfl

/-- tallystone/compile.Operate -/
@[simp] def c13_0l : List EO := [o 8 .mv [i 0],
 o 9 .mv [b false]]
def c13_0 : EC := .rg c13_0l false
@[simp] theorem c13_0e : Rg c13_0 c13_0l false := rgE _ _
@[simp] def c13_1l : List EO := [m 11 2,
 o 12 (.call 45) [t 11],
 o 13 (.un .not) [t 12],
 m 14 13,
 n 15 14 .mv [t 3],
 n 16 14 (.call 45) [t 15],
 n 17 14 (.un .not) [t 16],
 o 18 .pick [t 14, b true, t 17]]
def c13_1 : EC := .rg c13_1l false
@[simp] theorem c13_1e : Rg c13_1 c13_1l false := rgE _ _
@[simp] def c13_2l : List EO := [o 8 .mv [i 0],
 o 9 .mv [b false]]
def c13_2 : EC := .rg c13_2l false
@[simp] theorem c13_2e : Rg c13_2 c13_2l false := rgE _ _
def c13_3 : EC := .sq c13_2 .rt
@[simp] theorem c13_3e : Sq c13_3 c13_2 .rt := sqE _ _
def c13_4 : EC := .cd (t 18) c13_3 .skip
@[simp] theorem c13_4e : Cd c13_4 (t 18) c13_3 .skip := cdE _ _ _
def c13_5 : EC := .sq c13_1 c13_4
@[simp] theorem c13_5e : Sq c13_5 c13_1 c13_4 := sqE _ _
@[simp] def c13_6l : List EO := [o 10 .mv [i 0]]
def c13_6 : EC := .rg c13_6l false
@[simp] theorem c13_6e : Rg c13_6 c13_6l false := rgE _ _
@[simp] def c13_7l : List EO := [m 19 0]
def c13_7 : EC := .rg c13_7l false
@[simp] theorem c13_7e : Rg c13_7 c13_7l false := rgE _ _
@[simp] def c13_8l : List EO := [o 21 (.bin .eql) [t 19, i 5],
 m 20 21]
def c13_8 : EC := .rg c13_8l false
@[simp] theorem c13_8e : Rg c13_8 c13_8l false := rgE _ _
@[simp] def c13_9l : List EO := [m 22 2,
 o 23 (.un .neg) [t 22],
 m 10 23]
def c13_9 : EC := .rg c13_9l false
@[simp] theorem c13_9e : Rg c13_9 c13_9l false := rgE _ _
@[simp] def c13_10l : List EO := [o 25 (.bin .eql) [t 19, i 6],
 m 24 25]
def c13_10 : EC := .rg c13_10l false
@[simp] theorem c13_10e : Rg c13_10 c13_10l false := rgE _ _
@[simp] def c13_11l : List EO := [m 26 2,
 m 27 2,
 o 28 (.un .neg) [t 27],
 o 29 (.mm true) [t 26, t 28],
 m 10 29]
def c13_11 : EC := .rg c13_11l false
@[simp] theorem c13_11e : Rg c13_11 c13_11l false := rgE _ _
@[simp] def c13_12l : List EO := [o 31 (.bin .eql) [t 19, i 8],
 m 30 31]
def c13_12 : EC := .rg c13_12l false
@[simp] theorem c13_12e : Rg c13_12 c13_12l false := rgE _ _
@[simp] def c13_13l : List EO := [m 32 2,
 o 33 (.bin .eql) [t 32, i 0],
 o 34 (.call 46) [t 33],
 m 10 34]
def c13_13 : EC := .rg c13_13l false
@[simp] theorem c13_13e : Rg c13_13 c13_13l false := rgE _ _
@[simp] def c13_14l : List EO := [o 36 (.bin .eql) [t 19, i 9],
 m 35 36]
def c13_14 : EC := .rg c13_14l false
@[simp] theorem c13_14e : Rg c13_14 c13_14l false := rgE _ _
@[simp] def c13_15l : List EO := [m 37 1,
 o 38 (.bin .lss) [t 37, i 1],
 m 39 38,
 n 40 39 .mv [t 1],
 n 41 39 (.call 45) [t 40],
 n 42 39 (.un .not) [t 41],
 o 43 .pick [t 39, b true, t 42]]
def c13_15 : EC := .rg c13_15l false
@[simp] theorem c13_15e : Rg c13_15 c13_15l false := rgE _ _
@[simp] def c13_16l : List EO := [o 8 .mv [i 0],
 o 9 .mv [b false]]
def c13_16 : EC := .rg c13_16l false
@[simp] theorem c13_16e : Rg c13_16 c13_16l false := rgE _ _
def c13_17 : EC := .sq c13_16 .rt
@[simp] theorem c13_17e : Sq c13_17 c13_16 .rt := sqE _ _
def c13_18 : EC := .cd (t 43) c13_17 .skip
@[simp] theorem c13_18e : Cd c13_18 (t 43) c13_17 .skip := cdE _ _ _
def c13_19 : EC := .sq c13_15 c13_18
@[simp] theorem c13_19e : Sq c13_19 c13_15 c13_18 := sqE _ _
@[simp] def c13_20l : List EO := [m 44 2,
 m 45 2,
 o 46 (.un .neg) [t 45],
 o 47 (.mm true) [t 44, t 46],
 o 48 (.bin .mul) [i 2, t 47],
 m 49 1,
 o 50 (.bin .add) [t 48, t 49],
 m 51 1,
 o 52 (.bin .mul) [i 2, t 51],
 o 53 (.bin .quo) [t 50, t 52],
 m 10 53]
def c13_20 : EC := .rg c13_20l false
@[simp] theorem c13_20e : Rg c13_20 c13_20l false := rgE _ _
@[simp] def c13_21l : List EO := [m 54 2,
 o 55 (.bin .lss) [t 54, i 0]]
def c13_21 : EC := .rg c13_21l false
@[simp] theorem c13_21e : Rg c13_21 c13_21l false := rgE _ _
@[simp] def c13_22l : List EO := [m 56 10,
 o 57 (.un .neg) [t 56],
 m 10 57]
def c13_22 : EC := .rg c13_22l false
@[simp] theorem c13_22e : Rg c13_22 c13_22l false := rgE _ _
def c13_23 : EC := .cd (t 55) c13_22 .skip
@[simp] theorem c13_23e : Cd c13_23 (t 55) c13_22 .skip := cdE _ _ _
def c13_24 : EC := .sq c13_21 c13_23
@[simp] theorem c13_24e : Sq c13_24 c13_21 c13_23 := sqE _ _
def c13_25 : EC := .sq c13_20 c13_24
@[simp] theorem c13_25e : Sq c13_25 c13_20 c13_24 := sqE _ _
def c13_26 : EC := .sq c13_19 c13_25
@[simp] theorem c13_26e : Sq c13_26 c13_19 c13_25 := sqE _ _
@[simp] def c13_27l : List EO := [o 59 (.bin .eql) [t 19, i 10],
 m 58 59]
def c13_27 : EC := .rg c13_27l false
@[simp] theorem c13_27e : Rg c13_27 c13_27l false := rgE _ _
@[simp] def c13_28l : List EO := [m 60 2,
 m 61 3,
 o 62 (.bin .add) [t 60, t 61],
 m 10 62]
def c13_28 : EC := .rg c13_28l false
@[simp] theorem c13_28e : Rg c13_28 c13_28l false := rgE _ _
@[simp] def c13_29l : List EO := [o 64 (.bin .eql) [t 19, i 11],
 m 63 64]
def c13_29 : EC := .rg c13_29l false
@[simp] theorem c13_29e : Rg c13_29 c13_29l false := rgE _ _
@[simp] def c13_30l : List EO := [m 65 2,
 m 66 3,
 o 67 (.bin .sub) [t 65, t 66],
 m 10 67]
def c13_30 : EC := .rg c13_30l false
@[simp] theorem c13_30e : Rg c13_30 c13_30l false := rgE _ _
@[simp] def c13_31l : List EO := [o 69 (.bin .eql) [t 19, i 12],
 m 68 69]
def c13_31 : EC := .rg c13_31l false
@[simp] theorem c13_31e : Rg c13_31 c13_31l false := rgE _ _
@[simp] def c13_32l : List EO := [m 70 2,
 m 71 3,
 o 72 (.call 47) [t 70, t 71],
 o 73 (.ext 0) [t 72],
 o 74 (.ext 1) [t 72],
 m 8 73,
 m 9 74]
def c13_32 : EC := .rg c13_32l false
@[simp] theorem c13_32e : Rg c13_32 c13_32l false := rgE _ _
def c13_33 : EC := .sq c13_32 .rt
@[simp] theorem c13_33e : Sq c13_33 c13_32 .rt := sqE _ _
@[simp] def c13_34l : List EO := [o 76 (.bin .eql) [t 19, i 13],
 m 75 76]
def c13_34 : EC := .rg c13_34l false
@[simp] theorem c13_34e : Rg c13_34 c13_34l false := rgE _ _
@[simp] def c13_35l : List EO := [m 77 2,
 m 78 3,
 o 79 (.mm false) [t 77, t 78],
 m 10 79]
def c13_35 : EC := .rg c13_35l false
@[simp] theorem c13_35e : Rg c13_35 c13_35l false := rgE _ _
@[simp] def c13_36l : List EO := [o 81 (.bin .eql) [t 19, i 14],
 m 80 81]
def c13_36 : EC := .rg c13_36l false
@[simp] theorem c13_36e : Rg c13_36 c13_36l false := rgE _ _
@[simp] def c13_37l : List EO := [m 82 2,
 m 83 3,
 o 84 (.mm true) [t 82, t 83],
 m 10 84]
def c13_37 : EC := .rg c13_37l false
@[simp] theorem c13_37e : Rg c13_37 c13_37l false := rgE _ _
@[simp] def c13_38l : List EO := [o 86 (.bin .eql) [t 19, i 15],
 m 85 86]
def c13_38 : EC := .rg c13_38l false
@[simp] theorem c13_38e : Rg c13_38 c13_38l false := rgE _ _
@[simp] def c13_39l : List EO := [m 87 2,
 o 88 (.bin .neq) [t 87, i 0],
 m 89 88,
 y 90 89 .mv [t 3],
 y 91 89 (.bin .neq) [t 90, i 0],
 o 92 .pick [t 89, t 91, b false],
 o 93 (.call 46) [t 92],
 m 10 93]
def c13_39 : EC := .rg c13_39l false
@[simp] theorem c13_39e : Rg c13_39 c13_39l false := rgE _ _
@[simp] def c13_40l : List EO := [o 95 (.bin .eql) [t 19, i 16],
 m 94 95]
def c13_40 : EC := .rg c13_40l false
@[simp] theorem c13_40e : Rg c13_40 c13_40l false := rgE _ _
@[simp] def c13_41l : List EO := [m 96 2,
 o 97 (.bin .neq) [t 96, i 0],
 m 98 97,
 n 99 98 .mv [t 3],
 n 100 98 (.bin .neq) [t 99, i 0],
 o 101 .pick [t 98, b true, t 100],
 o 102 (.call 46) [t 101],
 m 10 102]
def c13_41 : EC := .rg c13_41l false
@[simp] theorem c13_41e : Rg c13_41 c13_41l false := rgE _ _
@[simp] def c13_42l : List EO := [o 104 (.bin .eql) [t 19, i 17],
 m 103 104]
def c13_42 : EC := .rg c13_42l false
@[simp] theorem c13_42e : Rg c13_42 c13_42l false := rgE _ _
@[simp] def c13_43l : List EO := [m 105 2,
 m 106 3,
 o 107 (.bin .lss) [t 105, t 106],
 o 108 (.call 46) [t 107],
 m 10 108]
def c13_43 : EC := .rg c13_43l false
@[simp] theorem c13_43e : Rg c13_43 c13_43l false := rgE _ _
@[simp] def c13_44l : List EO := [o 110 (.bin .eql) [t 19, i 18],
 m 109 110]
def c13_44 : EC := .rg c13_44l false
@[simp] theorem c13_44e : Rg c13_44 c13_44l false := rgE _ _
@[simp] def c13_45l : List EO := [m 111 2,
 m 112 3,
 o 113 (.bin .leq) [t 111, t 112],
 o 114 (.call 46) [t 113],
 m 10 114]
def c13_45 : EC := .rg c13_45l false
@[simp] theorem c13_45e : Rg c13_45 c13_45l false := rgE _ _
@[simp] def c13_46l : List EO := [o 116 (.bin .eql) [t 19, i 19],
 m 115 116]
def c13_46 : EC := .rg c13_46l false
@[simp] theorem c13_46e : Rg c13_46 c13_46l false := rgE _ _
@[simp] def c13_47l : List EO := [m 117 2,
 m 118 3,
 o 119 (.bin .eql) [t 117, t 118],
 o 120 (.call 46) [t 119],
 m 10 120]
def c13_47 : EC := .rg c13_47l false
@[simp] theorem c13_47e : Rg c13_47 c13_47l false := rgE _ _
@[simp] def c13_48l : List EO := [o 122 (.bin .eql) [t 19, i 20],
 m 121 122]
def c13_48 : EC := .rg c13_48l false
@[simp] theorem c13_48e : Rg c13_48 c13_48l false := rgE _ _
@[simp] def c13_49l : List EO := [m 123 2,
 m 124 3,
 o 125 (.bin .neq) [t 123, t 124],
 o 126 (.call 46) [t 125],
 m 10 126]
def c13_49 : EC := .rg c13_49l false
@[simp] theorem c13_49e : Rg c13_49 c13_49l false := rgE _ _
@[simp] def c13_50l : List EO := [o 128 (.bin .eql) [t 19, i 21],
 m 127 128]
def c13_50 : EC := .rg c13_50l false
@[simp] theorem c13_50e : Rg c13_50 c13_50l false := rgE _ _
@[simp] def c13_51l : List EO := [m 129 2,
 m 130 3,
 o 131 (.bin .geq) [t 129, t 130],
 o 132 (.call 46) [t 131],
 m 10 132]
def c13_51 : EC := .rg c13_51l false
@[simp] theorem c13_51e : Rg c13_51 c13_51l false := rgE _ _
@[simp] def c13_52l : List EO := [o 134 (.bin .eql) [t 19, i 22],
 m 133 134]
def c13_52 : EC := .rg c13_52l false
@[simp] theorem c13_52e : Rg c13_52 c13_52l false := rgE _ _
@[simp] def c13_53l : List EO := [m 135 2,
 m 136 3,
 o 137 (.bin .gtr) [t 135, t 136],
 o 138 (.call 46) [t 137],
 m 10 138]
def c13_53 : EC := .rg c13_53l false
@[simp] theorem c13_53e : Rg c13_53 c13_53l false := rgE _ _
@[simp] def c13_54l : List EO := [o 8 .mv [i 0],
 o 9 .mv [b false]]
def c13_54 : EC := .rg c13_54l false
@[simp] theorem c13_54e : Rg c13_54 c13_54l false := rgE _ _
def c13_55 : EC := .sq c13_54 .rt
@[simp] theorem c13_55e : Sq c13_55 c13_54 .rt := sqE _ _
def c13_56 : EC := .cd (t 133) c13_53 c13_55
@[simp] theorem c13_56e : Cd c13_56 (t 133) c13_53 c13_55 := cdE _ _ _
def c13_57 : EC := .sq c13_52 c13_56
@[simp] theorem c13_57e : Sq c13_57 c13_52 c13_56 := sqE _ _
def c13_58 : EC := .cd (t 127) c13_51 c13_57
@[simp] theorem c13_58e : Cd c13_58 (t 127) c13_51 c13_57 := cdE _ _ _
def c13_59 : EC := .sq c13_50 c13_58
@[simp] theorem c13_59e : Sq c13_59 c13_50 c13_58 := sqE _ _
def c13_60 : EC := .cd (t 121) c13_49 c13_59
@[simp] theorem c13_60e : Cd c13_60 (t 121) c13_49 c13_59 := cdE _ _ _
def c13_61 : EC := .sq c13_48 c13_60
@[simp] theorem c13_61e : Sq c13_61 c13_48 c13_60 := sqE _ _
def c13_62 : EC := .cd (t 115) c13_47 c13_61
@[simp] theorem c13_62e : Cd c13_62 (t 115) c13_47 c13_61 := cdE _ _ _
def c13_63 : EC := .sq c13_46 c13_62
@[simp] theorem c13_63e : Sq c13_63 c13_46 c13_62 := sqE _ _
def c13_64 : EC := .cd (t 109) c13_45 c13_63
@[simp] theorem c13_64e : Cd c13_64 (t 109) c13_45 c13_63 := cdE _ _ _
def c13_65 : EC := .sq c13_44 c13_64
@[simp] theorem c13_65e : Sq c13_65 c13_44 c13_64 := sqE _ _
def c13_66 : EC := .cd (t 103) c13_43 c13_65
@[simp] theorem c13_66e : Cd c13_66 (t 103) c13_43 c13_65 := cdE _ _ _
def c13_67 : EC := .sq c13_42 c13_66
@[simp] theorem c13_67e : Sq c13_67 c13_42 c13_66 := sqE _ _
def c13_68 : EC := .cd (t 94) c13_41 c13_67
@[simp] theorem c13_68e : Cd c13_68 (t 94) c13_41 c13_67 := cdE _ _ _
def c13_69 : EC := .sq c13_40 c13_68
@[simp] theorem c13_69e : Sq c13_69 c13_40 c13_68 := sqE _ _
def c13_70 : EC := .cd (t 85) c13_39 c13_69
@[simp] theorem c13_70e : Cd c13_70 (t 85) c13_39 c13_69 := cdE _ _ _
def c13_71 : EC := .sq c13_38 c13_70
@[simp] theorem c13_71e : Sq c13_71 c13_38 c13_70 := sqE _ _
def c13_72 : EC := .cd (t 80) c13_37 c13_71
@[simp] theorem c13_72e : Cd c13_72 (t 80) c13_37 c13_71 := cdE _ _ _
def c13_73 : EC := .sq c13_36 c13_72
@[simp] theorem c13_73e : Sq c13_73 c13_36 c13_72 := sqE _ _
def c13_74 : EC := .cd (t 75) c13_35 c13_73
@[simp] theorem c13_74e : Cd c13_74 (t 75) c13_35 c13_73 := cdE _ _ _
def c13_75 : EC := .sq c13_34 c13_74
@[simp] theorem c13_75e : Sq c13_75 c13_34 c13_74 := sqE _ _
def c13_76 : EC := .cd (t 68) c13_33 c13_75
@[simp] theorem c13_76e : Cd c13_76 (t 68) c13_33 c13_75 := cdE _ _ _
def c13_77 : EC := .sq c13_31 c13_76
@[simp] theorem c13_77e : Sq c13_77 c13_31 c13_76 := sqE _ _
def c13_78 : EC := .cd (t 63) c13_30 c13_77
@[simp] theorem c13_78e : Cd c13_78 (t 63) c13_30 c13_77 := cdE _ _ _
def c13_79 : EC := .sq c13_29 c13_78
@[simp] theorem c13_79e : Sq c13_79 c13_29 c13_78 := sqE _ _
def c13_80 : EC := .cd (t 58) c13_28 c13_79
@[simp] theorem c13_80e : Cd c13_80 (t 58) c13_28 c13_79 := cdE _ _ _
def c13_81 : EC := .sq c13_27 c13_80
@[simp] theorem c13_81e : Sq c13_81 c13_27 c13_80 := sqE _ _
def c13_82 : EC := .cd (t 35) c13_26 c13_81
@[simp] theorem c13_82e : Cd c13_82 (t 35) c13_26 c13_81 := cdE _ _ _
def c13_83 : EC := .sq c13_14 c13_82
@[simp] theorem c13_83e : Sq c13_83 c13_14 c13_82 := sqE _ _
def c13_84 : EC := .cd (t 30) c13_13 c13_83
@[simp] theorem c13_84e : Cd c13_84 (t 30) c13_13 c13_83 := cdE _ _ _
def c13_85 : EC := .sq c13_12 c13_84
@[simp] theorem c13_85e : Sq c13_85 c13_12 c13_84 := sqE _ _
def c13_86 : EC := .cd (t 24) c13_11 c13_85
@[simp] theorem c13_86e : Cd c13_86 (t 24) c13_11 c13_85 := cdE _ _ _
def c13_87 : EC := .sq c13_10 c13_86
@[simp] theorem c13_87e : Sq c13_87 c13_10 c13_86 := sqE _ _
def c13_88 : EC := .cd (t 20) c13_9 c13_87
@[simp] theorem c13_88e : Cd c13_88 (t 20) c13_9 c13_87 := cdE _ _ _
def c13_89 : EC := .sq c13_8 c13_88
@[simp] theorem c13_89e : Sq c13_89 c13_8 c13_88 := sqE _ _
def c13_90 : EC := .bk 0 c13_89
@[simp] theorem c13_90e : Bk c13_90 0 c13_89 := bkE _ _
def c13_91 : EC := .sq c13_7 c13_90
@[simp] theorem c13_91e : Sq c13_91 c13_7 c13_90 := sqE _ _
@[simp] def c13_92l : List EO := [m 139 10,
 o 140 (.call 45) [t 139],
 o 141 (.un .not) [t 140]]
def c13_92 : EC := .rg c13_92l false
@[simp] theorem c13_92e : Rg c13_92 c13_92l false := rgE _ _
@[simp] def c13_93l : List EO := [o 8 .mv [i 0],
 o 9 .mv [b false]]
def c13_93 : EC := .rg c13_93l false
@[simp] theorem c13_93e : Rg c13_93 c13_93l false := rgE _ _
def c13_94 : EC := .sq c13_93 .rt
@[simp] theorem c13_94e : Sq c13_94 c13_93 .rt := sqE _ _
def c13_95 : EC := .cd (t 141) c13_94 .skip
@[simp] theorem c13_95e : Cd c13_95 (t 141) c13_94 .skip := cdE _ _ _
def c13_96 : EC := .sq c13_92 c13_95
@[simp] theorem c13_96e : Sq c13_96 c13_92 c13_95 := sqE _ _
@[simp] def c13_97l : List EO := [m 142 10,
 m 8 142,
 o 9 .mv [b true]]
def c13_97 : EC := .rg c13_97l false
@[simp] theorem c13_97e : Rg c13_97 c13_97l false := rgE _ _
def c13_98 : EC := .sq c13_97 .rt
@[simp] theorem c13_98e : Sq c13_98 c13_97 .rt := sqE _ _
def c13_99 : EC := .sq c13_96 c13_98
@[simp] theorem c13_99e : Sq c13_99 c13_96 c13_98 := sqE _ _
def c13_100 : EC := .sq c13_91 c13_99
@[simp] theorem c13_100e : Sq c13_100 c13_91 c13_99 := sqE _ _
def c13_101 : EC := .sq c13_6 c13_100
@[simp] theorem c13_101e : Sq c13_101 c13_6 c13_100 := sqE _ _
def c13_102 : EC := .sq c13_5 c13_101
@[simp] theorem c13_102e : Sq c13_102 c13_5 c13_101 := sqE _ _
def c13_103 : EC := .sq c13_0 c13_102
@[simp] theorem c13_103e : Sq c13_103 c13_0 c13_102 := sqE _ _
def c_compile_Operate_13 : EC := c13_103
theorem k_13 : ecF Tryd.prog 13 = some (143, c_compile_Operate_13, [.tm 8, .tm 9]) := by kernel_rfl

/-- tallystone/tallystoneref34.Operate -/
@[simp] def c14_0l : List EO := [o 8 .mv [i 0],
 o 9 .mv [b false]]
def c14_0 : EC := .rg c14_0l false
@[simp] theorem c14_0e : Rg c14_0 c14_0l false := rgE _ _
@[simp] def c14_1l : List EO := [m 11 2,
 o 12 (.call 15) [t 11],
 o 13 (.un .not) [t 12],
 m 14 13,
 n 15 14 .mv [t 3],
 n 16 14 (.call 15) [t 15],
 n 17 14 (.un .not) [t 16],
 o 18 .pick [t 14, b true, t 17]]
def c14_1 : EC := .rg c14_1l false
@[simp] theorem c14_1e : Rg c14_1 c14_1l false := rgE _ _
@[simp] def c14_2l : List EO := [o 8 .mv [i 0],
 o 9 .mv [b false]]
def c14_2 : EC := .rg c14_2l false
@[simp] theorem c14_2e : Rg c14_2 c14_2l false := rgE _ _
def c14_3 : EC := .sq c14_2 .rt
@[simp] theorem c14_3e : Sq c14_3 c14_2 .rt := sqE _ _
def c14_4 : EC := .cd (t 18) c14_3 .skip
@[simp] theorem c14_4e : Cd c14_4 (t 18) c14_3 .skip := cdE _ _ _
def c14_5 : EC := .sq c14_1 c14_4
@[simp] theorem c14_5e : Sq c14_5 c14_1 c14_4 := sqE _ _
@[simp] def c14_6l : List EO := [o 10 .mv [i 0]]
def c14_6 : EC := .rg c14_6l false
@[simp] theorem c14_6e : Rg c14_6 c14_6l false := rgE _ _
@[simp] def c14_7l : List EO := [m 19 0]
def c14_7 : EC := .rg c14_7l false
@[simp] theorem c14_7e : Rg c14_7 c14_7l false := rgE _ _
@[simp] def c14_8l : List EO := [o 21 (.bin .eql) [t 19, i 5],
 m 20 21]
def c14_8 : EC := .rg c14_8l false
@[simp] theorem c14_8e : Rg c14_8 c14_8l false := rgE _ _
@[simp] def c14_9l : List EO := [m 22 2,
 o 23 (.un .neg) [t 22],
 m 10 23]
def c14_9 : EC := .rg c14_9l false
@[simp] theorem c14_9e : Rg c14_9 c14_9l false := rgE _ _
@[simp] def c14_10l : List EO := [o 25 (.bin .eql) [t 19, i 6],
 m 24 25]
def c14_10 : EC := .rg c14_10l false
@[simp] theorem c14_10e : Rg c14_10 c14_10l false := rgE _ _
@[simp] def c14_11l : List EO := [m 26 2,
 m 27 2,
 o 28 (.un .neg) [t 27],
 o 29 (.mm true) [t 26, t 28],
 m 10 29]
def c14_11 : EC := .rg c14_11l false
@[simp] theorem c14_11e : Rg c14_11 c14_11l false := rgE _ _
@[simp] def c14_12l : List EO := [o 31 (.bin .eql) [t 19, i 8],
 m 30 31]
def c14_12 : EC := .rg c14_12l false
@[simp] theorem c14_12e : Rg c14_12 c14_12l false := rgE _ _
@[simp] def c14_13l : List EO := [m 32 2,
 o 33 (.bin .eql) [t 32, i 0],
 o 34 (.call 48) [t 33],
 m 10 34]
def c14_13 : EC := .rg c14_13l false
@[simp] theorem c14_13e : Rg c14_13 c14_13l false := rgE _ _
@[simp] def c14_14l : List EO := [o 36 (.bin .eql) [t 19, i 9],
 m 35 36]
def c14_14 : EC := .rg c14_14l false
@[simp] theorem c14_14e : Rg c14_14 c14_14l false := rgE _ _
@[simp] def c14_15l : List EO := [m 37 1,
 o 38 (.bin .lss) [t 37, i 1],
 m 39 38,
 n 40 39 .mv [t 1],
 n 41 39 (.bin .gtr) [t 40, i 1000000000000],
 o 42 .pick [t 39, b true, t 41]]
def c14_15 : EC := .rg c14_15l false
@[simp] theorem c14_15e : Rg c14_15 c14_15l false := rgE _ _
@[simp] def c14_16l : List EO := [o 8 .mv [i 0],
 o 9 .mv [b false]]
def c14_16 : EC := .rg c14_16l false
@[simp] theorem c14_16e : Rg c14_16 c14_16l false := rgE _ _
def c14_17 : EC := .sq c14_16 .rt
@[simp] theorem c14_17e : Sq c14_17 c14_16 .rt := sqE _ _
def c14_18 : EC := .cd (t 42) c14_17 .skip
@[simp] theorem c14_18e : Cd c14_18 (t 42) c14_17 .skip := cdE _ _ _
def c14_19 : EC := .sq c14_15 c14_18
@[simp] theorem c14_19e : Sq c14_19 c14_15 c14_18 := sqE _ _
@[simp] def c14_20l : List EO := [m 43 2,
 m 44 2,
 o 45 (.un .neg) [t 44],
 o 46 (.mm true) [t 43, t 45],
 o 47 (.bin .mul) [i 2, t 46],
 m 48 1,
 o 49 (.bin .add) [t 47, t 48],
 m 50 1,
 o 51 (.bin .mul) [i 2, t 50],
 o 52 (.bin .quo) [t 49, t 51],
 m 10 52]
def c14_20 : EC := .rg c14_20l false
@[simp] theorem c14_20e : Rg c14_20 c14_20l false := rgE _ _
@[simp] def c14_21l : List EO := [m 53 2,
 o 54 (.bin .lss) [t 53, i 0]]
def c14_21 : EC := .rg c14_21l false
@[simp] theorem c14_21e : Rg c14_21 c14_21l false := rgE _ _
@[simp] def c14_22l : List EO := [m 55 10,
 o 56 (.un .neg) [t 55],
 m 10 56]
def c14_22 : EC := .rg c14_22l false
@[simp] theorem c14_22e : Rg c14_22 c14_22l false := rgE _ _
def c14_23 : EC := .cd (t 54) c14_22 .skip
@[simp] theorem c14_23e : Cd c14_23 (t 54) c14_22 .skip := cdE _ _ _
def c14_24 : EC := .sq c14_21 c14_23
@[simp] theorem c14_24e : Sq c14_24 c14_21 c14_23 := sqE _ _
def c14_25 : EC := .sq c14_20 c14_24
@[simp] theorem c14_25e : Sq c14_25 c14_20 c14_24 := sqE _ _
def c14_26 : EC := .sq c14_19 c14_25
@[simp] theorem c14_26e : Sq c14_26 c14_19 c14_25 := sqE _ _
@[simp] def c14_27l : List EO := [o 58 (.bin .eql) [t 19, i 10],
 m 57 58]
def c14_27 : EC := .rg c14_27l false
@[simp] theorem c14_27e : Rg c14_27 c14_27l false := rgE _ _
@[simp] def c14_28l : List EO := [m 59 2,
 m 60 3,
 o 61 (.bin .add) [t 59, t 60],
 m 10 61]
def c14_28 : EC := .rg c14_28l false
@[simp] theorem c14_28e : Rg c14_28 c14_28l false := rgE _ _
@[simp] def c14_29l : List EO := [o 63 (.bin .eql) [t 19, i 11],
 m 62 63]
def c14_29 : EC := .rg c14_29l false
@[simp] theorem c14_29e : Rg c14_29 c14_29l false := rgE _ _
@[simp] def c14_30l : List EO := [m 64 2,
 m 65 3,
 o 66 (.bin .sub) [t 64, t 65],
 m 10 66]
def c14_30 : EC := .rg c14_30l false
@[simp] theorem c14_30e : Rg c14_30 c14_30l false := rgE _ _
@[simp] def c14_31l : List EO := [o 68 (.bin .eql) [t 19, i 12],
 m 67 68]
def c14_31 : EC := .rg c14_31l false
@[simp] theorem c14_31e : Rg c14_31 c14_31l false := rgE _ _
@[simp] def c14_32l : List EO := [m 69 2,
 o 70 (.bin .neq) [t 69, i 0],
 m 71 70,
 y 72 71 .mv [t 3],
 y 73 71 .mv [t 3],
 y 74 71 (.un .neg) [t 73],
 y 75 71 (.mm true) [t 72, t 74],
 y 76 71 .mv [t 2],
 y 77 71 .mv [t 2],
 y 78 71 (.un .neg) [t 77],
 y 79 71 (.mm true) [t 76, t 78],
 y 80 71 (.bin .quo) [i 1000000000000, t 79],
 y 81 71 (.bin .gtr) [t 75, t 80],
 o 82 .pick [t 71, t 81, b false]]
def c14_32 : EC := .rg c14_32l false
@[simp] theorem c14_32e : Rg c14_32 c14_32l false := rgE _ _
@[simp] def c14_33l : List EO := [o 8 .mv [i 0],
 o 9 .mv [b false]]
def c14_33 : EC := .rg c14_33l false
@[simp] theorem c14_33e : Rg c14_33 c14_33l false := rgE _ _
def c14_34 : EC := .sq c14_33 .rt
@[simp] theorem c14_34e : Sq c14_34 c14_33 .rt := sqE _ _
def c14_35 : EC := .cd (t 82) c14_34 .skip
@[simp] theorem c14_35e : Cd c14_35 (t 82) c14_34 .skip := cdE _ _ _
def c14_36 : EC := .sq c14_32 c14_35
@[simp] theorem c14_36e : Sq c14_36 c14_32 c14_35 := sqE _ _
@[simp] def c14_37l : List EO := [m 83 2,
 m 84 3,
 o 85 (.bin .mul) [t 83, t 84],
 m 10 85]
def c14_37 : EC := .rg c14_37l false
@[simp] theorem c14_37e : Rg c14_37 c14_37l false := rgE _ _
def c14_38 : EC := .sq c14_36 c14_37
@[simp] theorem c14_38e : Sq c14_38 c14_36 c14_37 := sqE _ _
@[simp] def c14_39l : List EO := [o 87 (.bin .eql) [t 19, i 13],
 m 86 87]
def c14_39 : EC := .rg c14_39l false
@[simp] theorem c14_39e : Rg c14_39 c14_39l false := rgE _ _
@[simp] def c14_40l : List EO := [m 88 2,
 m 89 3,
 o 90 (.mm false) [t 88, t 89],
 m 10 90]
def c14_40 : EC := .rg c14_40l false
@[simp] theorem c14_40e : Rg c14_40 c14_40l false := rgE _ _
@[simp] def c14_41l : List EO := [o 92 (.bin .eql) [t 19, i 14],
 m 91 92]
def c14_41 : EC := .rg c14_41l false
@[simp] theorem c14_41e : Rg c14_41 c14_41l false := rgE _ _
@[simp] def c14_42l : List EO := [m 93 2,
 m 94 3,
 o 95 (.mm true) [t 93, t 94],
 m 10 95]
def c14_42 : EC := .rg c14_42l false
@[simp] theorem c14_42e : Rg c14_42 c14_42l false := rgE _ _
@[simp] def c14_43l : List EO := [o 97 (.bin .eql) [t 19, i 15],
 m 96 97]
def c14_43 : EC := .rg c14_43l false
@[simp] theorem c14_43e : Rg c14_43 c14_43l false := rgE _ _
@[simp] def c14_44l : List EO := [m 98 2,
 o 99 (.bin .neq) [t 98, i 0],
 m 100 99,
 y 101 100 .mv [t 3],
 y 102 100 (.bin .neq) [t 101, i 0],
 o 103 .pick [t 100, t 102, b false],
 o 104 (.call 48) [t 103],
 m 10 104]
def c14_44 : EC := .rg c14_44l false
@[simp] theorem c14_44e : Rg c14_44 c14_44l false := rgE _ _
@[simp] def c14_45l : List EO := [o 106 (.bin .eql) [t 19, i 16],
 m 105 106]
def c14_45 : EC := .rg c14_45l false
@[simp] theorem c14_45e : Rg c14_45 c14_45l false := rgE _ _
@[simp] def c14_46l : List EO := [m 107 2,
 o 108 (.bin .neq) [t 107, i 0],
 m 109 108,
 n 110 109 .mv [t 3],
 n 111 109 (.bin .neq) [t 110, i 0],
 o 112 .pick [t 109, b true, t 111],
 o 113 (.call 48) [t 112],
 m 10 113]
def c14_46 : EC := .rg c14_46l false
@[simp] theorem c14_46e : Rg c14_46 c14_46l false := rgE _ _
@[simp] def c14_47l : List EO := [o 115 (.bin .eql) [t 19, i 17],
 m 114 115]
def c14_47 : EC := .rg c14_47l false
@[simp] theorem c14_47e : Rg c14_47 c14_47l false := rgE _ _
@[simp] def c14_48l : List EO := [m 116 2,
 m 117 3,
 o 118 (.bin .lss) [t 116, t 117],
 o 119 (.call 48) [t 118],
 m 10 119]
def c14_48 : EC := .rg c14_48l false
@[simp] theorem c14_48e : Rg c14_48 c14_48l false := rgE _ _
@[simp] def c14_49l : List EO := [o 121 (.bin .eql) [t 19, i 18],
 m 120 121]
def c14_49 : EC := .rg c14_49l false
@[simp] theorem c14_49e : Rg c14_49 c14_49l false := rgE _ _
@[simp] def c14_50l : List EO := [m 122 2,
 m 123 3,
 o 124 (.bin .leq) [t 122, t 123],
 o 125 (.call 48) [t 124],
 m 10 125]
def c14_50 : EC := .rg c14_50l false
@[simp] theorem c14_50e : Rg c14_50 c14_50l false := rgE _ _
@[simp] def c14_51l : List EO := [o 127 (.bin .eql) [t 19, i 19],
 m 126 127]
def c14_51 : EC := .rg c14_51l false
@[simp] theorem c14_51e : Rg c14_51 c14_51l false := rgE _ _
@[simp] def c14_52l : List EO := [m 128 2,
 m 129 3,
 o 130 (.bin .eql) [t 128, t 129],
 o 131 (.call 48) [t 130],
 m 10 131]
def c14_52 : EC := .rg c14_52l false
@[simp] theorem c14_52e : Rg c14_52 c14_52l false := rgE _ _
@[simp] def c14_53l : List EO := [o 133 (.bin .eql) [t 19, i 20],
 m 132 133]
def c14_53 : EC := .rg c14_53l false
@[simp] theorem c14_53e : Rg c14_53 c14_53l false := rgE _ _
@[simp] def c14_54l : List EO := [m 134 2,
 m 135 3,
 o 136 (.bin .neq) [t 134, t 135],
 o 137 (.call 48) [t 136],
 m 10 137]
def c14_54 : EC := .rg c14_54l false
@[simp] theorem c14_54e : Rg c14_54 c14_54l false := rgE _ _
@[simp] def c14_55l : List EO := [o 139 (.bin .eql) [t 19, i 21],
 m 138 139]
def c14_55 : EC := .rg c14_55l false
@[simp] theorem c14_55e : Rg c14_55 c14_55l false := rgE _ _
@[simp] def c14_56l : List EO := [m 140 2,
 m 141 3,
 o 142 (.bin .geq) [t 140, t 141],
 o 143 (.call 48) [t 142],
 m 10 143]
def c14_56 : EC := .rg c14_56l false
@[simp] theorem c14_56e : Rg c14_56 c14_56l false := rgE _ _
@[simp] def c14_57l : List EO := [o 145 (.bin .eql) [t 19, i 22],
 m 144 145]
def c14_57 : EC := .rg c14_57l false
@[simp] theorem c14_57e : Rg c14_57 c14_57l false := rgE _ _
@[simp] def c14_58l : List EO := [m 146 2,
 m 147 3,
 o 148 (.bin .gtr) [t 146, t 147],
 o 149 (.call 48) [t 148],
 m 10 149]
def c14_58 : EC := .rg c14_58l false
@[simp] theorem c14_58e : Rg c14_58 c14_58l false := rgE _ _
@[simp] def c14_59l : List EO := [o 8 .mv [i 0],
 o 9 .mv [b false]]
def c14_59 : EC := .rg c14_59l false
@[simp] theorem c14_59e : Rg c14_59 c14_59l false := rgE _ _
def c14_60 : EC := .sq c14_59 .rt
@[simp] theorem c14_60e : Sq c14_60 c14_59 .rt := sqE _ _
def c14_61 : EC := .cd (t 144) c14_58 c14_60
@[simp] theorem c14_61e : Cd c14_61 (t 144) c14_58 c14_60 := cdE _ _ _
def c14_62 : EC := .sq c14_57 c14_61
@[simp] theorem c14_62e : Sq c14_62 c14_57 c14_61 := sqE _ _
def c14_63 : EC := .cd (t 138) c14_56 c14_62
@[simp] theorem c14_63e : Cd c14_63 (t 138) c14_56 c14_62 := cdE _ _ _
def c14_64 : EC := .sq c14_55 c14_63
@[simp] theorem c14_64e : Sq c14_64 c14_55 c14_63 := sqE _ _
def c14_65 : EC := .cd (t 132) c14_54 c14_64
@[simp] theorem c14_65e : Cd c14_65 (t 132) c14_54 c14_64 := cdE _ _ _
def c14_66 : EC := .sq c14_53 c14_65
@[simp] theorem c14_66e : Sq c14_66 c14_53 c14_65 := sqE _ _
def c14_67 : EC := .cd (t 126) c14_52 c14_66
@[simp] theorem c14_67e : Cd c14_67 (t 126) c14_52 c14_66 := cdE _ _ _
def c14_68 : EC := .sq c14_51 c14_67
@[simp] theorem c14_68e : Sq c14_68 c14_51 c14_67 := sqE _ _
def c14_69 : EC := .cd (t 120) c14_50 c14_68
@[simp] theorem c14_69e : Cd c14_69 (t 120) c14_50 c14_68 := cdE _ _ _
def c14_70 : EC := .sq c14_49 c14_69
@[simp] theorem c14_70e : Sq c14_70 c14_49 c14_69 := sqE _ _
def c14_71 : EC := .cd (t 114) c14_48 c14_70
@[simp] theorem c14_71e : Cd c14_71 (t 114) c14_48 c14_70 := cdE _ _ _
def c14_72 : EC := .sq c14_47 c14_71
@[simp] theorem c14_72e : Sq c14_72 c14_47 c14_71 := sqE _ _
def c14_73 : EC := .cd (t 105) c14_46 c14_72
@[simp] theorem c14_73e : Cd c14_73 (t 105) c14_46 c14_72 := cdE _ _ _
def c14_74 : EC := .sq c14_45 c14_73
@[simp] theorem c14_74e : Sq c14_74 c14_45 c14_73 := sqE _ _
def c14_75 : EC := .cd (t 96) c14_44 c14_74
@[simp] theorem c14_75e : Cd c14_75 (t 96) c14_44 c14_74 := cdE _ _ _
def c14_76 : EC := .sq c14_43 c14_75
@[simp] theorem c14_76e : Sq c14_76 c14_43 c14_75 := sqE _ _
def c14_77 : EC := .cd (t 91) c14_42 c14_76
@[simp] theorem c14_77e : Cd c14_77 (t 91) c14_42 c14_76 := cdE _ _ _
def c14_78 : EC := .sq c14_41 c14_77
@[simp] theorem c14_78e : Sq c14_78 c14_41 c14_77 := sqE _ _
def c14_79 : EC := .cd (t 86) c14_40 c14_78
@[simp] theorem c14_79e : Cd c14_79 (t 86) c14_40 c14_78 := cdE _ _ _
def c14_80 : EC := .sq c14_39 c14_79
@[simp] theorem c14_80e : Sq c14_80 c14_39 c14_79 := sqE _ _
def c14_81 : EC := .cd (t 67) c14_38 c14_80
@[simp] theorem c14_81e : Cd c14_81 (t 67) c14_38 c14_80 := cdE _ _ _
def c14_82 : EC := .sq c14_31 c14_81
@[simp] theorem c14_82e : Sq c14_82 c14_31 c14_81 := sqE _ _
def c14_83 : EC := .cd (t 62) c14_30 c14_82
@[simp] theorem c14_83e : Cd c14_83 (t 62) c14_30 c14_82 := cdE _ _ _
def c14_84 : EC := .sq c14_29 c14_83
@[simp] theorem c14_84e : Sq c14_84 c14_29 c14_83 := sqE _ _
def c14_85 : EC := .cd (t 57) c14_28 c14_84
@[simp] theorem c14_85e : Cd c14_85 (t 57) c14_28 c14_84 := cdE _ _ _
def c14_86 : EC := .sq c14_27 c14_85
@[simp] theorem c14_86e : Sq c14_86 c14_27 c14_85 := sqE _ _
def c14_87 : EC := .cd (t 35) c14_26 c14_86
@[simp] theorem c14_87e : Cd c14_87 (t 35) c14_26 c14_86 := cdE _ _ _
def c14_88 : EC := .sq c14_14 c14_87
@[simp] theorem c14_88e : Sq c14_88 c14_14 c14_87 := sqE _ _
def c14_89 : EC := .cd (t 30) c14_13 c14_88
@[simp] theorem c14_89e : Cd c14_89 (t 30) c14_13 c14_88 := cdE _ _ _
def c14_90 : EC := .sq c14_12 c14_89
@[simp] theorem c14_90e : Sq c14_90 c14_12 c14_89 := sqE _ _
def c14_91 : EC := .cd (t 24) c14_11 c14_90
@[simp] theorem c14_91e : Cd c14_91 (t 24) c14_11 c14_90 := cdE _ _ _
def c14_92 : EC := .sq c14_10 c14_91
@[simp] theorem c14_92e : Sq c14_92 c14_10 c14_91 := sqE _ _
def c14_93 : EC := .cd (t 20) c14_9 c14_92
@[simp] theorem c14_93e : Cd c14_93 (t 20) c14_9 c14_92 := cdE _ _ _
def c14_94 : EC := .sq c14_8 c14_93
@[simp] theorem c14_94e : Sq c14_94 c14_8 c14_93 := sqE _ _
def c14_95 : EC := .bk 0 c14_94
@[simp] theorem c14_95e : Bk c14_95 0 c14_94 := bkE _ _
def c14_96 : EC := .sq c14_7 c14_95
@[simp] theorem c14_96e : Sq c14_96 c14_7 c14_95 := sqE _ _
@[simp] def c14_97l : List EO := [m 150 10,
 o 151 (.call 15) [t 150],
 o 152 (.un .not) [t 151]]
def c14_97 : EC := .rg c14_97l false
@[simp] theorem c14_97e : Rg c14_97 c14_97l false := rgE _ _
@[simp] def c14_98l : List EO := [o 8 .mv [i 0],
 o 9 .mv [b false]]
def c14_98 : EC := .rg c14_98l false
@[simp] theorem c14_98e : Rg c14_98 c14_98l false := rgE _ _
def c14_99 : EC := .sq c14_98 .rt
@[simp] theorem c14_99e : Sq c14_99 c14_98 .rt := sqE _ _
def c14_100 : EC := .cd (t 152) c14_99 .skip
@[simp] theorem c14_100e : Cd c14_100 (t 152) c14_99 .skip := cdE _ _ _
def c14_101 : EC := .sq c14_97 c14_100
@[simp] theorem c14_101e : Sq c14_101 c14_97 c14_100 := sqE _ _
@[simp] def c14_102l : List EO := [m 153 10,
 m 8 153,
 o 9 .mv [b true]]
def c14_102 : EC := .rg c14_102l false
@[simp] theorem c14_102e : Rg c14_102 c14_102l false := rgE _ _
def c14_103 : EC := .sq c14_102 .rt
@[simp] theorem c14_103e : Sq c14_103 c14_102 .rt := sqE _ _
def c14_104 : EC := .sq c14_101 c14_103
@[simp] theorem c14_104e : Sq c14_104 c14_101 c14_103 := sqE _ _
def c14_105 : EC := .sq c14_96 c14_104
@[simp] theorem c14_105e : Sq c14_105 c14_96 c14_104 := sqE _ _
def c14_106 : EC := .sq c14_6 c14_105
@[simp] theorem c14_106e : Sq c14_106 c14_6 c14_105 := sqE _ _
def c14_107 : EC := .sq c14_5 c14_106
@[simp] theorem c14_107e : Sq c14_107 c14_5 c14_106 := sqE _ _
def c14_108 : EC := .sq c14_0 c14_107
@[simp] theorem c14_108e : Sq c14_108 c14_0 c14_107 := sqE _ _
def c_tallystoneref34_Operate_14 : EC := c14_108
theorem k_14 : ecF Tryd.prog 14 = some (154, c_tallystoneref34_Operate_14, [.tm 8, .tm 9]) := by kernel_rfl

/-- tallystone/tallystoneref02.Amount -/
@[simp] def c15_0l : List EO := [o 2 .mv [b false]]
def c15_0 : EC := .rg c15_0l false
@[simp] theorem c15_0e : Rg c15_0 c15_0l false := rgE _ _
@[simp] def c15_1l : List EO := [m 3 0,
 o 4 (.bin .geq) [t 3, i (-1000000000000)],
 m 5 4,
 y 6 5 .mv [t 0],
 y 7 5 (.bin .leq) [t 6, i 1000000000000],
 o 8 .pick [t 5, t 7, b false],
 m 2 8]
def c15_1 : EC := .rg c15_1l false
@[simp] theorem c15_1e : Rg c15_1 c15_1l false := rgE _ _
def c15_2 : EC := .sq c15_1 .rt
@[simp] theorem c15_2e : Sq c15_2 c15_1 .rt := sqE _ _
def c15_3 : EC := .sq c15_0 c15_2
@[simp] theorem c15_3e : Sq c15_3 c15_0 c15_2 := sqE _ _
def c_tallystoneref02_Amount_15 : EC := c15_3
theorem k_15 : ecF Tryd.prog 15 = some (9, c_tallystoneref02_Amount_15, [.tm 2]) := by kernel_rfl

/-- tallystone/tallystoneref34.Few -/
@[simp] def c21_0l : List EO := [o 1 .box [t 0],
 o 2 .mv [b false]]
def c21_0 : EC := .rg c21_0l false
@[simp] theorem c21_0e : Rg c21_0 c21_0l false := rgE _ _
@[simp] def c21_1l : List EO := [o 3 (.faddr 0) [t 1],
 o 4 (.load 1 false) [t 3],
 o 5 .lenS [t 4],
 o 6 (.bin .leq) [t 5, i 100],
 m 7 6,
 y 8 7 (.faddr 2) [t 1],
 y 9 7 (.load 1 false) [t 8],
 y 10 7 .lenL [t 9],
 y 11 7 (.bin .leq) [t 10, i 400],
 o 12 .pick [t 7, t 11, b false],
 m 2 12]
def c21_1 : EC := .rg c21_1l false
@[simp] theorem c21_1e : Rg c21_1 c21_1l false := rgE _ _
def c21_2 : EC := .sq c21_1 .rt
@[simp] theorem c21_2e : Sq c21_2 c21_1 .rt := sqE _ _
def c21_3 : EC := .sq c21_0 c21_2
@[simp] theorem c21_3e : Sq c21_3 c21_0 c21_2 := sqE _ _
def c_tallystoneref34_Few_21 : EC := c21_3
theorem k_21 : ecF Tryd.prog 21 = some (13, c_tallystoneref34_Few_21, [.tm 2]) := by kernel_rfl

/-- tallystone/tallystonelaw34.Own -/
@[simp] def c22_0l : List EO := [o 1 .box [t 0],
 o 2 (.alloc [.t (.str []), .t (.bool false), .snil]) []]
def c22_0 : EC := .rg c22_0l false
@[simp] theorem c22_0e : Rg c22_0 c22_0l false := rgE _ _
@[simp] def c22_1l : List EO := [o 5 (.faddr 0) [t 1],
 o 6 (.load 1 false) [t 5],
 o 7 (.faddr 1) [t 1],
 o 8 (.load 1 false) [t 7],
 o 9 (.build [.t (.str []), .t (.bool false), .snil] [(0, 1), (1, 1)]) [t 6, t 8],
 o 3 (.alloc [.t (.str []), .t (.bool false), .snil]) [],
 u (.store 3) [t 3, t 9]]
def c22_1 : EC := .rg c22_1l false
@[simp] theorem c22_1e : Rg c22_1 c22_1l false := rgE _ _
@[simp] def c22_2l : List EO := [o 4 .mv [i 0]]
def c22_2 : EC := .rg c22_2l false
@[simp] theorem c22_2e : Rg c22_2 c22_2l false := rgE _ _
@[simp] def c22_3l : List EO := [m 10 4,
 o 11 (.faddr 2) [t 1],
 o 12 (.load 1 false) [t 11],
 o 13 .lenL [t 12],
 o 14 (.bin .lss) [t 10, t 13]]
def c22_3 : EC := .rg c22_3l false
@[simp] theorem c22_3e : Rg c22_3 c22_3l false := rgE _ _
def c22_4 : EC := .cd (t 14) .skip (.ex 0)
@[simp] theorem c22_4e : Cd c22_4 (t 14) .skip (.ex 0) := cdE _ _ _
def c22_5 : EC := .sq c22_3 c22_4
@[simp] theorem c22_5e : Sq c22_5 c22_3 c22_4 := sqE _ _
@[simp] def c22_6l : List EO := [o 17 (.faddr 2) [t 3],
 o 18 (.load 1 false) [t 17],
 o 19 (.faddr 2) [t 1],
 o 20 (.load 1 false) [t 19],
 m 21 4,
 o 22 (.iaS 3) [t 20, t 21],
 o 23 (.load 3 true) [t 22],
 o 24 (.bsl 3) [t 23],
 o 25 (.app 87 3 24) [t 18, t 24],
 o 26 (.faddr 2) [t 3],
 u (.store 1) [t 26, t 25]]
def c22_6 : EC := .rg c22_6l true
@[simp] theorem c22_6e : Rg c22_6 c22_6l true := rgE _ _
def c22_7 : EC := .bk 1 c22_6
@[simp] theorem c22_7e : Bk c22_7 1 c22_6 := bkE _ _
@[simp] def c22_8l : List EO := [m 15 4,
 o 16 (.bin .add) [t 15, i 1],
 m 4 16]
def c22_8 : EC := .rg c22_8l false
@[simp] theorem c22_8e : Rg c22_8 c22_8l false := rgE _ _
def c22_9 : EC := .sq c22_7 c22_8
@[simp] theorem c22_9e : Sq c22_9 c22_7 c22_8 := sqE _ _
def c22_10 : EC := .sq c22_5 c22_9
@[simp] theorem c22_10e : Sq c22_10 c22_5 c22_9 := sqE _ _
def c22_11 : EC := .bk 0 (.lp c22_10)
@[simp] theorem c22_11e : Bk c22_11 0 (.lp c22_10) := bkE _ _
def c22_12 : EC := .sq c22_2 c22_11
@[simp] theorem c22_12e : Sq c22_12 c22_2 c22_11 := sqE _ _
@[simp] def c22_13l : List EO := [o 27 (.load 3 true) [t 3],
 u (.store 3) [t 2, t 27]]
def c22_13 : EC := .rg c22_13l false
@[simp] theorem c22_13e : Rg c22_13 c22_13l false := rgE _ _
def c22_14 : EC := .sq c22_13 .rt
@[simp] theorem c22_14e : Sq c22_14 c22_13 .rt := sqE _ _
def c22_15 : EC := .sq c22_12 c22_14
@[simp] theorem c22_15e : Sq c22_15 c22_12 c22_14 := sqE _ _
def c22_16 : EC := .sq c22_1 c22_15
@[simp] theorem c22_16e : Sq c22_16 c22_1 c22_15 := sqE _ _
def c22_17 : EC := .sq c22_0 c22_16
@[simp] theorem c22_17e : Sq c22_17 c22_0 c22_16 := sqE _ _
def c_tallystonelaw34_Own_22 : EC := c22_17
theorem k_22 : ecF Tryd.prog 22 = some (28, c_tallystonelaw34_Own_22, [.ce 2 3 true]) := by kernel_rfl

/-- tallystone/compile.Size -/
@[simp] def c23_0l : List EO := [o 1 .box [t 0],
 o 2 .mv [i 0],
 o 3 .mv [i 0]]
def c23_0 : EC := .rg c23_0l false
@[simp] theorem c23_0e : Rg c23_0 c23_0l false := rgE _ _
@[simp] def c23_1l : List EO := [o 7 (.load 3 true) [t 1],
 o 8 (.call 55) [t 7],
 m 6 8,
 o 9 (.ext 0) [t 6],
 o 10 (.ext 1) [t 6],
 m 4 9,
 m 5 10]
def c23_1 : EC := .rg c23_1l false
@[simp] theorem c23_1e : Rg c23_1 c23_1l false := rgE _ _
@[simp] def c23_2l : List EO := [m 11 5,
 o 12 (.un .not) [t 11]]
def c23_2 : EC := .rg c23_2l false
@[simp] theorem c23_2e : Rg c23_2 c23_2l false := rgE _ _
@[simp] def c23_3l : List EO := [o 2 .mv [i 0],
 o 3 .mv [i 1]]
def c23_3 : EC := .rg c23_3l false
@[simp] theorem c23_3e : Rg c23_3 c23_3l false := rgE _ _
def c23_4 : EC := .sq c23_3 .rt
@[simp] theorem c23_4e : Sq c23_4 c23_3 .rt := sqE _ _
def c23_5 : EC := .cd (t 12) c23_4 .skip
@[simp] theorem c23_5e : Cd c23_5 (t 12) c23_4 .skip := cdE _ _ _
def c23_6 : EC := .sq c23_2 c23_5
@[simp] theorem c23_6e : Sq c23_6 c23_2 c23_5 := sqE _ _
@[simp] def c23_7l : List EO := [m 13 4,
 m 2 13,
 o 3 .mv [i 0]]
def c23_7 : EC := .rg c23_7l false
@[simp] theorem c23_7e : Rg c23_7 c23_7l false := rgE _ _
def c23_8 : EC := .sq c23_7 .rt
@[simp] theorem c23_8e : Sq c23_8 c23_7 .rt := sqE _ _
def c23_9 : EC := .sq c23_6 c23_8
@[simp] theorem c23_9e : Sq c23_9 c23_6 c23_8 := sqE _ _
def c23_10 : EC := .sq c23_1 c23_9
@[simp] theorem c23_10e : Sq c23_10 c23_1 c23_9 := sqE _ _
def c23_11 : EC := .sq c23_0 c23_10
@[simp] theorem c23_11e : Sq c23_11 c23_0 c23_10 := sqE _ _
def c_compile_Size_23 : EC := c23_11
theorem k_23 : ecF Tryd.prog 23 = some (14, c_compile_Size_23, [.tm 2, .tm 3]) := by kernel_rfl

/-- tallystone/tallystoneref34.Size -/
@[simp] def c24_0l : List EO := [o 1 .box [t 0],
 o 2 .mv [i 0],
 o 3 .mv [i 0]]
def c24_0 : EC := .rg c24_0l false
@[simp] theorem c24_0e : Rg c24_0 c24_0l false := rgE _ _
@[simp] def c24_1l : List EO := [o 7 (.load 3 true) [t 1],
 o 8 (.call 56) [t 7],
 m 6 8,
 o 9 (.ext 0) [t 6],
 o 10 (.ext 1) [t 6],
 m 4 9,
 m 5 10]
def c24_1 : EC := .rg c24_1l false
@[simp] theorem c24_1e : Rg c24_1 c24_1l false := rgE _ _
@[simp] def c24_2l : List EO := [m 11 5,
 o 12 (.un .not) [t 11]]
def c24_2 : EC := .rg c24_2l false
@[simp] theorem c24_2e : Rg c24_2 c24_2l false := rgE _ _
@[simp] def c24_3l : List EO := [o 2 .mv [i 0],
 o 3 .mv [i 1]]
def c24_3 : EC := .rg c24_3l false
@[simp] theorem c24_3e : Rg c24_3 c24_3l false := rgE _ _
def c24_4 : EC := .sq c24_3 .rt
@[simp] theorem c24_4e : Sq c24_4 c24_3 .rt := sqE _ _
def c24_5 : EC := .cd (t 12) c24_4 .skip
@[simp] theorem c24_5e : Cd c24_5 (t 12) c24_4 .skip := cdE _ _ _
def c24_6 : EC := .sq c24_2 c24_5
@[simp] theorem c24_6e : Sq c24_6 c24_2 c24_5 := sqE _ _
@[simp] def c24_7l : List EO := [m 13 4,
 m 2 13,
 o 3 .mv [i 0]]
def c24_7 : EC := .rg c24_7l false
@[simp] theorem c24_7e : Rg c24_7 c24_7l false := rgE _ _
def c24_8 : EC := .sq c24_7 .rt
@[simp] theorem c24_8e : Sq c24_8 c24_7 .rt := sqE _ _
def c24_9 : EC := .sq c24_6 c24_8
@[simp] theorem c24_9e : Sq c24_9 c24_6 c24_8 := sqE _ _
def c24_10 : EC := .sq c24_1 c24_9
@[simp] theorem c24_10e : Sq c24_10 c24_1 c24_9 := sqE _ _
def c24_11 : EC := .sq c24_0 c24_10
@[simp] theorem c24_11e : Sq c24_11 c24_0 c24_10 := sqE _ _
def c_tallystoneref34_Size_24 : EC := c24_11
theorem k_24 : ecF Tryd.prog 24 = some (14, c_tallystoneref34_Size_24, [.tm 2, .tm 3]) := by kernel_rfl

/-- tallystone/compile.Fold, with slices that grow in boxes -/
@[simp] def b25_0l : List EO := [o 1 .box [t 0],
 o 2 (.alloc [.t (.str []), .t (.bool false), .snil]) [],
 o 3 .mv [i 0]]
def b25_0 : EC := .rg b25_0l false
@[simp] theorem b25_0e : Rg b25_0 b25_0l false := rgE _ _
@[simp] def b25_1l : List EO := [o 15 (.load 3 true) [t 1],
 o 16 (.call 27) [t 15],
 o 17 (.un .not) [t 16]]
def b25_1 : EC := .rg b25_1l false
@[simp] theorem b25_1e : Rg b25_1 b25_1l false := rgE _ _
@[simp] def b25_2l : List EO := [o 18 (.build [.t (.str []), .t (.bool false), .snil] []) [],
 u (.store 3) [t 2, t 18],
 o 3 .mv [i 1]]
def b25_2 : EC := .rg b25_2l false
@[simp] theorem b25_2e : Rg b25_2 b25_2l false := rgE _ _
def b25_3 : EC := .sq b25_2 .rt
@[simp] theorem b25_3e : Sq b25_3 b25_2 .rt := sqE _ _
def b25_4 : EC := .cd (t 17) b25_3 .skip
@[simp] theorem b25_4e : Cd b25_4 (t 17) b25_3 .skip := cdE _ _ _
def b25_5 : EC := .sq b25_1 b25_4
@[simp] theorem b25_5e : Sq b25_5 b25_1 b25_4 := sqE _ _
@[simp] def b25_6l : List EO := [o 19 (.call 57) [],
 o 4 (.alloc [.t (.str []), .t (.int .i64 0), .t (.int .i64 0), .t (.int .i64 0), .t (.str []), .t (.int .i64 0), .t (.int .i64 0), .t (.int .i64 0), .t (.str []), .t (.int .i64 0), .t (.int .i64 0), .t (.int .i64 0), .t (.str []), .t (.int .i64 0), .t (.int .i64 0), .t (.int .i64 0), .t (.str []), .t (.int .i64 0), .t (.int .i64 0), .t (.int .i64 0), .t (.str []), .t (.int .i64 0), .t (.int .i64 0), .t (.int .i64 0), .t (.str []), .t (.int .i64 0), .t (.int .i64 0), .t (.int .i64 0), .t (.str []), .t (.int .i64 0), .t (.int .i64 0), .t (.int .i64 0), .t (.str []), .t (.int .i64 0), .t (.int .i64 0), .t (.int .i64 0), .t (.str []), .t (.int .i64 0), .t (.int .i64 0), .t (.int .i64 0), .t (.str []), .t (.int .i64 0), .t (.int .i64 0), .t (.int .i64 0), .t (.str []), .t (.int .i64 0), .t (.int .i64 0), .t (.int .i64 0), .t (.str []), .t (.int .i64 0), .t (.int .i64 0), .t (.int .i64 0), .t (.str []), .t (.int .i64 0), .t (.int .i64 0), .t (.int .i64 0), .t (.str []), .t (.int .i64 0), .t (.int .i64 0), .t (.int .i64 0), .t (.str []), .t (.int .i64 0), .t (.int .i64 0), .t (.int .i64 0), .t (.str []), .t (.int .i64 0), .t (.int .i64 0), .t (.int .i64 0), .t (.str []), .t (.int .i64 0), .t (.int .i64 0), .t (.int .i64 0), .t (.str []), .t (.int .i64 0), .t (.int .i64 0), .t (.int .i64 0), .t (.str []), .t (.int .i64 0), .t (.int .i64 0), .t (.int .i64 0), .t (.str []), .t (.int .i64 0), .t (.int .i64 0), .t (.int .i64 0), .t (.str []), .t (.int .i64 0), .t (.int .i64 0), .t (.int .i64 0), .t (.str []), .t (.int .i64 0), .t (.int .i64 0), .t (.int .i64 0), .t (.str []), .t (.int .i64 0), .t (.int .i64 0), .t (.int .i64 0), .t (.str []), .t (.int .i64 0), .t (.int .i64 0), .t (.int .i64 0), .t (.str []), .t (.int .i64 0), .t (.int .i64 0), .t (.int .i64 0), .t (.str []), .t (.int .i64 0), .t (.int .i64 0), .t (.int .i64 0)]) [],
 u (.store 108) [t 4, t 19]]
def b25_6 : EC := .rg b25_6l false
@[simp] theorem b25_6e : Rg b25_6 b25_6l false := rgE _ _
@[simp] def b25_7l : List EO := [o 20 (.faddr 2) [t 1],
 o 21 (.load 1 false) [t 20],
 o 22 .lenL [t 21],
 o 23 (.mks 87 3 24 [.t (.int .i64 0), .t (.int .i64 0), .t (.int .i64 0)]) [i 0, t 22],
 m 5 23]
def b25_7 : EC := .rg b25_7l false
@[simp] theorem b25_7e : Rg b25_7 b25_7l false := rgE _ _
@[simp] def b25_8l : List EO := [o 24 (.faddr 2) [t 1],
 o 25 (.load 1 false) [t 24],
 o 26 .lenL [t 25],
 o 27 .mv [i 0]]
def b25_8 : EC := .rg b25_8l false
@[simp] theorem b25_8e : Rg b25_8 b25_8l false := rgE _ _
@[simp] def b25_9l : List EO := [o 28 (.bin .lss) [t 27, t 26]]
def b25_9 : EC := .rg b25_9l false
@[simp] theorem b25_9e : Rg b25_9 b25_9l false := rgE _ _
def b25_10 : EC := .cd (t 28) .skip (.ex 0)
@[simp] theorem b25_10e : Cd b25_10 (t 28) .skip (.ex 0) := cdE _ _ _
@[simp] def b25_11l : List EO := [o 29 (.iaS 3) [t 25, t 27],
 o 30 (.load 3 true) [t 29],
 o 7 (.alloc [.t (.int .i64 0), .t (.int .i64 0), .t (.int .i64 0)]) [],
 u (.store 3) [t 7, t 30]]
def b25_11 : EC := .rg b25_11l false
@[simp] theorem b25_11e : Rg b25_11 b25_11l false := rgE _ _
@[simp] def b25_12l : List EO := [m 31 5,
 o 32 (.load 3 true) [t 7],
 o 33 (.bsl 3) [t 32],
 o 34 (.appB 87 3 24) [t 31, t 33],
 m 5 34]
def b25_12 : EC := .rg b25_12l false
@[simp] theorem b25_12e : Rg b25_12 b25_12l false := rgE _ _
@[simp] def b25_13l : List EO := [o 35 (.faddr 0) [t 7],
 o 36 (.load 1 false) [t 35],
 o 37 (.iaA 27 4) [t 4, t 36],
 o 38 (.faddr 1) [t 37],
 o 39 (.load 1 false) [t 38],
 m 40 5,
 o 41 .lenL [t 40],
 o 42 (.bin .sub) [t 41, i 1],
 m 8 39,
 m 9 42]
def b25_13 : EC := .rg b25_13l false
@[simp] theorem b25_13e : Rg b25_13 b25_13l false := rgE _ _
@[simp] def b25_14l : List EO := [o 43 (.faddr 0) [t 7],
 o 44 (.load 1 false) [t 43],
 o 45 (.iaA 27 4) [t 4, t 44],
 o 46 (.faddr 2) [t 45],
 o 47 (.load 1 false) [t 46],
 o 48 (.bin .eql) [t 47, i 0],
 m 49 48,
 n 50 49 .mv [t 8],
 n 51 49 (.bin .eql) [t 50, i 0],
 o 52 .pick [t 49, b true, t 51],
 m 53 52,
 n 54 53 .mv [t 9],
 n 55 53 .mv [t 8],
 n 56 53 (.bin .lss) [t 54, t 55],
 o 57 .pick [t 53, b true, t 56]]
def b25_14 : EC := .rg b25_14l false
@[simp] theorem b25_14e : Rg b25_14 b25_14l false := rgE _ _
def b25_15 : EC := .cd (t 57) (.ex 1) .skip
@[simp] theorem b25_15e : Cd b25_15 (t 57) (.ex 1) .skip := cdE _ _ _
def b25_16 : EC := .sq b25_14 b25_15
@[simp] theorem b25_16e : Sq b25_16 b25_14 b25_15 := sqE _ _
@[simp] def b25_17l : List EO := [m 58 5,
 m 59 9,
 m 60 8,
 o 61 (.bin .sub) [t 59, t 60],
 m 62 9,
 m 63 9,
 o 64 (.slL 3 true true true) [t 58, t 61, t 62, t 63],
 m 10 64]
def b25_17 : EC := .rg b25_17l false
@[simp] theorem b25_17e : Rg b25_17 b25_17l false := rgE _ _
@[simp] def b25_18l : List EO := [m 65 10,
 o 66 (.call 58) [t 65, c (.fn (.func 59) [])]]
def b25_18 : EC := .rg b25_18l false
@[simp] theorem b25_18e : Rg b25_18 b25_18l false := rgE _ _
def b25_19 : EC := .cd (t 66) (.ex 1) .skip
@[simp] theorem b25_19e : Cd b25_19 (t 66) (.ex 1) .skip := cdE _ _ _
def b25_20 : EC := .sq b25_18 b25_19
@[simp] theorem b25_20e : Sq b25_20 b25_18 b25_19 := sqE _ _
@[simp] def b25_21l : List EO := [m 67 10,
 o 68 (.iaS 3) [t 67, i 0],
 o 69 (.faddr 1) [t 68],
 o 70 (.load 1 false) [t 69],
 m 11 70,
 o 12 .mv [i 0]]
def b25_21 : EC := .rg b25_21l false
@[simp] theorem b25_21e : Rg b25_21 b25_21l false := rgE _ _
@[simp] def b25_22l : List EO := [m 71 8,
 o 72 (.bin .eql) [t 71, i 2]]
def b25_22 : EC := .rg b25_22l false
@[simp] theorem b25_22e : Rg b25_22 b25_22l false := rgE _ _
@[simp] def b25_23l : List EO := [m 73 10,
 o 74 (.iaS 3) [t 73, i 1],
 o 75 (.faddr 1) [t 74],
 o 76 (.load 1 false) [t 75],
 m 12 76]
def b25_23 : EC := .rg b25_23l false
@[simp] theorem b25_23e : Rg b25_23 b25_23l false := rgE _ _
def b25_24 : EC := .cd (t 72) b25_23 .skip
@[simp] theorem b25_24e : Cd b25_24 (t 72) b25_23 .skip := cdE _ _ _
def b25_25 : EC := .sq b25_22 b25_24
@[simp] theorem b25_25e : Sq b25_25 b25_22 b25_24 := sqE _ _
@[simp] def b25_26l : List EO := [o 78 (.faddr 0) [t 7],
 o 79 (.load 1 false) [t 78],
 o 80 (.faddr 1) [t 7],
 o 81 (.load 1 false) [t 80],
 m 82 11,
 m 83 12,
 o 84 (.call 13) [t 79, t 81, t 82, t 83],
 m 77 84,
 o 85 (.ext 0) [t 77],
 o 86 (.ext 1) [t 77],
 m 13 85,
 m 14 86]
def b25_26 : EC := .rg b25_26l false
@[simp] theorem b25_26e : Rg b25_26 b25_26l false := rgE _ _
@[simp] def b25_27l : List EO := [m 87 14]
def b25_27 : EC := .rg b25_27l false
@[simp] theorem b25_27e : Rg b25_27 b25_27l false := rgE _ _
@[simp] def b25_28l : List EO := [m 88 5,
 m 89 9,
 m 90 8,
 o 91 (.bin .sub) [t 89, t 90],
 o 92 (.slL 3 false true false) [t 88, t 91],
 m 93 13,
 o 94 (.build [.t (.int .i64 0), .t (.int .i64 0), .t (.int .i64 0)] [(0, 1), (1, 1), (2, 1)]) [i 1, t 93, i 0],
 o 95 (.bsl 3) [t 94],
 o 96 (.appB 87 3 24) [t 92, t 95],
 m 5 96]
def b25_28 : EC := .rg b25_28l false
@[simp] theorem b25_28e : Rg b25_28 b25_28l false := rgE _ _
def b25_29 : EC := .cd (t 87) b25_28 .skip
@[simp] theorem b25_29e : Cd b25_29 (t 87) b25_28 .skip := cdE _ _ _
def b25_30 : EC := .sq b25_27 b25_29
@[simp] theorem b25_30e : Sq b25_30 b25_27 b25_29 := sqE _ _
def b25_31 : EC := .sq b25_26 b25_30
@[simp] theorem b25_31e : Sq b25_31 b25_26 b25_30 := sqE _ _
def b25_32 : EC := .sq b25_25 b25_31
@[simp] theorem b25_32e : Sq b25_32 b25_25 b25_31 := sqE _ _
def b25_33 : EC := .sq b25_21 b25_32
@[simp] theorem b25_33e : Sq b25_33 b25_21 b25_32 := sqE _ _
def b25_34 : EC := .sq b25_20 b25_33
@[simp] theorem b25_34e : Sq b25_34 b25_20 b25_33 := sqE _ _
def b25_35 : EC := .sq b25_17 b25_34
@[simp] theorem b25_35e : Sq b25_35 b25_17 b25_34 := sqE _ _
def b25_36 : EC := .sq b25_16 b25_35
@[simp] theorem b25_36e : Sq b25_36 b25_16 b25_35 := sqE _ _
def b25_37 : EC := .sq b25_13 b25_36
@[simp] theorem b25_37e : Sq b25_37 b25_13 b25_36 := sqE _ _
def b25_38 : EC := .sq b25_12 b25_37
@[simp] theorem b25_38e : Sq b25_38 b25_12 b25_37 := sqE _ _
def b25_39 : EC := .sq b25_11 b25_38
@[simp] theorem b25_39e : Sq b25_39 b25_11 b25_38 := sqE _ _
def b25_40 : EC := .bk 1 b25_39
@[simp] theorem b25_40e : Bk b25_40 1 b25_39 := bkE _ _
@[simp] def b25_41l : List EO := [o 97 (.bin .add) [t 27, i 1],
 m 27 97]
def b25_41 : EC := .rg b25_41l false
@[simp] theorem b25_41e : Rg b25_41 b25_41l false := rgE _ _
def b25_42 : EC := .sq b25_40 b25_41
@[simp] theorem b25_42e : Sq b25_42 b25_40 b25_41 := sqE _ _
def b25_43 : EC := .sq b25_10 b25_42
@[simp] theorem b25_43e : Sq b25_43 b25_10 b25_42 := sqE _ _
def b25_44 : EC := .sq b25_9 b25_43
@[simp] theorem b25_44e : Sq b25_44 b25_9 b25_43 := sqE _ _
def b25_45 : EC := .bk 0 (.lp b25_44)
@[simp] theorem b25_45e : Bk b25_45 0 (.lp b25_44) := bkE _ _
def b25_46 : EC := .sq b25_8 b25_45
@[simp] theorem b25_46e : Sq b25_46 b25_8 b25_45 := sqE _ _
@[simp] def b25_47l : List EO := [o 98 (.faddr 0) [t 1],
 o 99 (.load 1 false) [t 98],
 o 100 (.faddr 1) [t 1],
 o 101 (.load 1 false) [t 100],
 m 102 5,
 o 103 (.build [.t (.str []), .t (.bool false), .snil] [(0, 1), (1, 1), (2, 1)]) [t 99, t 101, t 102],
 u (.store 3) [t 2, t 103],
 o 3 .mv [i 0]]
def b25_47 : EC := .rg b25_47l false
@[simp] theorem b25_47e : Rg b25_47 b25_47l false := rgE _ _
def b25_48 : EC := .sq b25_47 .rt
@[simp] theorem b25_48e : Sq b25_48 b25_47 .rt := sqE _ _
def b25_49 : EC := .sq b25_46 b25_48
@[simp] theorem b25_49e : Sq b25_49 b25_46 b25_48 := sqE _ _
def b25_50 : EC := .sq b25_7 b25_49
@[simp] theorem b25_50e : Sq b25_50 b25_7 b25_49 := sqE _ _
def b25_51 : EC := .sq b25_6 b25_50
@[simp] theorem b25_51e : Sq b25_51 b25_6 b25_50 := sqE _ _
def b25_52 : EC := .sq b25_5 b25_51
@[simp] theorem b25_52e : Sq b25_52 b25_5 b25_51 := sqE _ _
def b25_53 : EC := .sq b25_0 b25_52
@[simp] theorem b25_53e : Sq b25_53 b25_0 b25_52 := sqE _ _
def b_compile_Fold_25 : EC := b25_53
theorem kb_25 : ecB Tryd.prog 25 = some (104, b_compile_Fold_25, [.ce 2 3 true, .tm 3]) := by kernel_rfl

/-- tallystone/compile.Text -/
@[simp] def c26_0l : List EO := [o 1 .box [t 0],
 o 2 .mv [c (.t (.str []))],
 o 3 .mv [i 0]]
def c26_0 : EC := .rg c26_0l false
@[simp] theorem c26_0e : Rg c26_0 c26_0l false := rgE _ _
@[simp] def c26_1l : List EO := [o 10 (.load 3 true) [t 1],
 o 11 (.call 27) [t 10],
 o 12 (.un .not) [t 11]]
def c26_1 : EC := .rg c26_1l false
@[simp] theorem c26_1e : Rg c26_1 c26_1l false := rgE _ _
@[simp] def c26_2l : List EO := [o 2 .mv [c (.t (.str []))],
 o 3 .mv [i 1]]
def c26_2 : EC := .rg c26_2l false
@[simp] theorem c26_2e : Rg c26_2 c26_2l false := rgE _ _
def c26_3 : EC := .sq c26_2 .rt
@[simp] theorem c26_3e : Sq c26_3 c26_2 .rt := sqE _ _
def c26_4 : EC := .cd (t 12) c26_3 .skip
@[simp] theorem c26_4e : Cd c26_4 (t 12) c26_3 .skip := cdE _ _ _
def c26_5 : EC := .sq c26_1 c26_4
@[simp] theorem c26_5e : Sq c26_5 c26_1 c26_4 := sqE _ _
@[simp] def c26_6l : List EO := [o 13 (.call 57) [],
 o 4 (.alloc [.t (.str []), .t (.int .i64 0), .t (.int .i64 0), .t (.int .i64 0), .t (.str []), .t (.int .i64 0), .t (.int .i64 0), .t (.int .i64 0), .t (.str []), .t (.int .i64 0), .t (.int .i64 0), .t (.int .i64 0), .t (.str []), .t (.int .i64 0), .t (.int .i64 0), .t (.int .i64 0), .t (.str []), .t (.int .i64 0), .t (.int .i64 0), .t (.int .i64 0), .t (.str []), .t (.int .i64 0), .t (.int .i64 0), .t (.int .i64 0), .t (.str []), .t (.int .i64 0), .t (.int .i64 0), .t (.int .i64 0), .t (.str []), .t (.int .i64 0), .t (.int .i64 0), .t (.int .i64 0), .t (.str []), .t (.int .i64 0), .t (.int .i64 0), .t (.int .i64 0), .t (.str []), .t (.int .i64 0), .t (.int .i64 0), .t (.int .i64 0), .t (.str []), .t (.int .i64 0), .t (.int .i64 0), .t (.int .i64 0), .t (.str []), .t (.int .i64 0), .t (.int .i64 0), .t (.int .i64 0), .t (.str []), .t (.int .i64 0), .t (.int .i64 0), .t (.int .i64 0), .t (.str []), .t (.int .i64 0), .t (.int .i64 0), .t (.int .i64 0), .t (.str []), .t (.int .i64 0), .t (.int .i64 0), .t (.int .i64 0), .t (.str []), .t (.int .i64 0), .t (.int .i64 0), .t (.int .i64 0), .t (.str []), .t (.int .i64 0), .t (.int .i64 0), .t (.int .i64 0), .t (.str []), .t (.int .i64 0), .t (.int .i64 0), .t (.int .i64 0), .t (.str []), .t (.int .i64 0), .t (.int .i64 0), .t (.int .i64 0), .t (.str []), .t (.int .i64 0), .t (.int .i64 0), .t (.int .i64 0), .t (.str []), .t (.int .i64 0), .t (.int .i64 0), .t (.int .i64 0), .t (.str []), .t (.int .i64 0), .t (.int .i64 0), .t (.int .i64 0), .t (.str []), .t (.int .i64 0), .t (.int .i64 0), .t (.int .i64 0), .t (.str []), .t (.int .i64 0), .t (.int .i64 0), .t (.int .i64 0), .t (.str []), .t (.int .i64 0), .t (.int .i64 0), .t (.int .i64 0), .t (.str []), .t (.int .i64 0), .t (.int .i64 0), .t (.int .i64 0), .t (.str []), .t (.int .i64 0), .t (.int .i64 0), .t (.int .i64 0)]) [],
 u (.store 108) [t 4, t 13]]
def c26_6 : EC := .rg c26_6l false
@[simp] theorem c26_6e : Rg c26_6 c26_6l false := rgE _ _
@[simp] def c26_7l : List EO := [o 5 (.allocT 115 [.t (.nilp), .snil]) []]
def c26_7 : EC := .rg c26_7l false
@[simp] theorem c26_7e : Rg c26_7 c26_7l false := rgE _ _
@[simp] def c26_8l : List EO := [o 14 (.faddr 2) [t 1],
 o 15 (.load 1 false) [t 14],
 o 16 .lenL [t 15],
 o 17 .mv [i 0]]
def c26_8 : EC := .rg c26_8l false
@[simp] theorem c26_8e : Rg c26_8 c26_8l false := rgE _ _
@[simp] def c26_9l : List EO := [o 18 (.bin .lss) [t 17, t 16]]
def c26_9 : EC := .rg c26_9l false
@[simp] theorem c26_9e : Rg c26_9 c26_9l false := rgE _ _
def c26_10 : EC := .cd (t 18) .skip (.ex 0)
@[simp] theorem c26_10e : Cd c26_10 (t 18) .skip (.ex 0) := cdE _ _ _
@[simp] def c26_11l : List EO := [o 19 (.iaS 3) [t 15, t 17],
 o 20 (.load 3 true) [t 19],
 o 7 (.alloc [.t (.int .i64 0), .t (.int .i64 0), .t (.int .i64 0)]) [],
 u (.store 3) [t 7, t 20]]
def c26_11 : EC := .rg c26_11l false
@[simp] theorem c26_11e : Rg c26_11 c26_11l false := rgE _ _
@[simp] def c26_12l : List EO := [o 21 (.faddr 0) [t 7],
 o 22 (.load 1 false) [t 21],
 o 23 (.iaA 27 4) [t 4, t 22],
 o 24 (.faddr 0) [t 23],
 o 25 (.load 1 false) [t 24],
 o 26 (.call 60) [t 5, t 25]]
def c26_12 : EC := .rg c26_12l false
@[simp] theorem c26_12e : Rg c26_12 c26_12l false := rgE _ _
@[simp] def c26_13l : List EO := [o 27 (.faddr 1) [t 7],
 o 28 (.load 1 false) [t 27],
 o 29 (.faddr 2) [t 7],
 o 30 (.load 1 false) [t 29],
 o 31 (.bsl 1) [t 28, t 30],
 o 32 (.faddr 0) [t 7],
 o 33 (.load 1 false) [t 32],
 o 34 (.iaA 27 4) [t 4, t 33],
 o 35 (.faddr 3) [t 34],
 o 36 (.load 1 false) [t 35],
 o 37 (.slL 1 false true false) [t 31, t 36],
 o 38 .lenL [t 37],
 o 39 .mv [i 0]]
def c26_13 : EC := .rg c26_13l true
@[simp] theorem c26_13e : Rg c26_13 c26_13l true := rgE _ _
@[simp] def c26_14l : List EO := [o 40 (.bin .lss) [t 39, t 38]]
def c26_14 : EC := .rg c26_14l false
@[simp] theorem c26_14e : Rg c26_14 c26_14l false := rgE _ _
def c26_15 : EC := .cd (t 40) .skip (.ex 2)
@[simp] theorem c26_15e : Cd c26_15 (t 40) .skip (.ex 2) := cdE _ _ _
@[simp] def c26_16l : List EO := [o 41 (.iaS 1) [t 37, t 39],
 o 42 (.load 1 false) [t 41],
 m 9 42]
def c26_16 : EC := .rg c26_16l false
@[simp] theorem c26_16e : Rg c26_16 c26_16l false := rgE _ _
@[simp] def c26_17l : List EO := [m 43 9,
 o 44 (.call 61) [t 43],
 o 45 (.bin .add) [c (.t (.str [32])), t 44],
 o 46 (.call 60) [t 5, t 45]]
def c26_17 : EC := .rg c26_17l false
@[simp] theorem c26_17e : Rg c26_17 c26_17l false := rgE _ _
def c26_18 : EC := .sq c26_16 c26_17
@[simp] theorem c26_18e : Sq c26_18 c26_16 c26_17 := sqE _ _
def c26_19 : EC := .bk 3 c26_18
@[simp] theorem c26_19e : Bk c26_19 3 c26_18 := bkE _ _
@[simp] def c26_20l : List EO := [o 47 (.bin .add) [t 39, i 1],
 m 39 47]
def c26_20 : EC := .rg c26_20l false
@[simp] theorem c26_20e : Rg c26_20 c26_20l false := rgE _ _
def c26_21 : EC := .sq c26_19 c26_20
@[simp] theorem c26_21e : Sq c26_21 c26_19 c26_20 := sqE _ _
def c26_22 : EC := .sq c26_15 c26_21
@[simp] theorem c26_22e : Sq c26_22 c26_15 c26_21 := sqE _ _
def c26_23 : EC := .sq c26_14 c26_22
@[simp] theorem c26_23e : Sq c26_23 c26_14 c26_22 := sqE _ _
def c26_24 : EC := .bk 2 (.lp c26_23)
@[simp] theorem c26_24e : Bk c26_24 2 (.lp c26_23) := bkE _ _
def c26_25 : EC := .sq c26_13 c26_24
@[simp] theorem c26_25e : Sq c26_25 c26_13 c26_24 := sqE _ _
@[simp] def c26_26l : List EO := [o 48 (.call 62) [t 5, c (.t (.int .u8 10))]]
def c26_26 : EC := .rg c26_26l false
@[simp] theorem c26_26e : Rg c26_26 c26_26l false := rgE _ _
def c26_27 : EC := .sq c26_25 c26_26
@[simp] theorem c26_27e : Sq c26_27 c26_25 c26_26 := sqE _ _
def c26_28 : EC := .sq c26_12 c26_27
@[simp] theorem c26_28e : Sq c26_28 c26_12 c26_27 := sqE _ _
def c26_29 : EC := .sq c26_11 c26_28
@[simp] theorem c26_29e : Sq c26_29 c26_11 c26_28 := sqE _ _
def c26_30 : EC := .bk 1 c26_29
@[simp] theorem c26_30e : Bk c26_30 1 c26_29 := bkE _ _
@[simp] def c26_31l : List EO := [o 49 (.bin .add) [t 17, i 1],
 m 17 49]
def c26_31 : EC := .rg c26_31l false
@[simp] theorem c26_31e : Rg c26_31 c26_31l false := rgE _ _
def c26_32 : EC := .sq c26_30 c26_31
@[simp] theorem c26_32e : Sq c26_32 c26_30 c26_31 := sqE _ _
def c26_33 : EC := .sq c26_10 c26_32
@[simp] theorem c26_33e : Sq c26_33 c26_10 c26_32 := sqE _ _
def c26_34 : EC := .sq c26_9 c26_33
@[simp] theorem c26_34e : Sq c26_34 c26_9 c26_33 := sqE _ _
def c26_35 : EC := .bk 0 (.lp c26_34)
@[simp] theorem c26_35e : Bk c26_35 0 (.lp c26_34) := bkE _ _
def c26_36 : EC := .sq c26_8 c26_35
@[simp] theorem c26_36e : Sq c26_36 c26_8 c26_35 := sqE _ _
@[simp] def c26_37l : List EO := [o 50 (.call 63) [t 5],
 m 2 50,
 o 3 .mv [i 0]]
def c26_37 : EC := .rg c26_37l false
@[simp] theorem c26_37e : Rg c26_37 c26_37l false := rgE _ _
def c26_38 : EC := .sq c26_37 .rt
@[simp] theorem c26_38e : Sq c26_38 c26_37 .rt := sqE _ _
def c26_39 : EC := .sq c26_36 c26_38
@[simp] theorem c26_39e : Sq c26_39 c26_36 c26_38 := sqE _ _
def c26_40 : EC := .sq c26_7 c26_39
@[simp] theorem c26_40e : Sq c26_40 c26_7 c26_39 := sqE _ _
def c26_41 : EC := .sq c26_6 c26_40
@[simp] theorem c26_41e : Sq c26_41 c26_6 c26_40 := sqE _ _
def c26_42 : EC := .sq c26_5 c26_41
@[simp] theorem c26_42e : Sq c26_42 c26_5 c26_41 := sqE _ _
def c26_43 : EC := .sq c26_0 c26_42
@[simp] theorem c26_43e : Sq c26_43 c26_0 c26_42 := sqE _ _
def c_compile_Text_26 : EC := c26_43
theorem k_26 : ecF Tryd.prog 26 = some (51, c_compile_Text_26, [.tm 2, .tm 3]) := by kernel_rfl

/-- tallystone/compile.Valid -/
@[simp] def c27_0l : List EO := [o 1 .box [t 0],
 o 2 .mv [b false]]
def c27_0 : EC := .rg c27_0l false
@[simp] theorem c27_0e : Rg c27_0 c27_0l false := rgE _ _
@[simp] def c27_1l : List EO := [o 6 (.load 3 true) [t 1],
 o 7 (.call 55) [t 6],
 m 5 7,
 o 8 (.ext 0) [t 5],
 o 9 (.ext 1) [t 5],
 m 3 8,
 m 4 9]
def c27_1 : EC := .rg c27_1l false
@[simp] theorem c27_1e : Rg c27_1 c27_1l false := rgE _ _
@[simp] def c27_2l : List EO := [m 10 4,
 m 2 10]
def c27_2 : EC := .rg c27_2l false
@[simp] theorem c27_2e : Rg c27_2 c27_2l false := rgE _ _
def c27_3 : EC := .sq c27_2 .rt
@[simp] theorem c27_3e : Sq c27_3 c27_2 .rt := sqE _ _
def c27_4 : EC := .sq c27_1 c27_3
@[simp] theorem c27_4e : Sq c27_4 c27_1 c27_3 := sqE _ _
def c27_5 : EC := .sq c27_0 c27_4
@[simp] theorem c27_5e : Sq c27_5 c27_0 c27_4 := sqE _ _
def c_compile_Valid_27 : EC := c27_5
theorem k_27 : ecF Tryd.prog 27 = some (11, c_compile_Valid_27, [.tm 2]) := by kernel_rfl

/-- tallystone/tallystoneref34.Valid -/
@[simp] def c28_0l : List EO := [o 1 .box [t 0],
 o 2 .mv [b false]]
def c28_0 : EC := .rg c28_0l false
@[simp] theorem c28_0e : Rg c28_0 c28_0l false := rgE _ _
@[simp] def c28_1l : List EO := [o 6 (.load 3 true) [t 1],
 o 7 (.call 56) [t 6],
 m 5 7,
 o 8 (.ext 0) [t 5],
 o 9 (.ext 1) [t 5],
 m 3 8,
 m 4 9]
def c28_1 : EC := .rg c28_1l false
@[simp] theorem c28_1e : Rg c28_1 c28_1l false := rgE _ _
@[simp] def c28_2l : List EO := [m 10 4,
 m 2 10]
def c28_2 : EC := .rg c28_2l false
@[simp] theorem c28_2e : Rg c28_2 c28_2l false := rgE _ _
def c28_3 : EC := .sq c28_2 .rt
@[simp] theorem c28_3e : Sq c28_3 c28_2 .rt := sqE _ _
def c28_4 : EC := .sq c28_1 c28_3
@[simp] theorem c28_4e : Sq c28_4 c28_1 c28_3 := sqE _ _
def c28_5 : EC := .sq c28_0 c28_4
@[simp] theorem c28_5e : Sq c28_5 c28_0 c28_4 := sqE _ _
def c_tallystoneref34_Valid_28 : EC := c28_5
theorem k_28 : ecF Tryd.prog 28 = some (11, c_tallystoneref34_Valid_28, [.tm 2]) := by kernel_rfl

/-- tallystone/compile.Same -/
@[simp] def c29_0l : List EO := [o 2 .box [t 0],
 o 3 .box [t 1],
 o 4 .mv [b false]]
def c29_0 : EC := .rg c29_0l false
@[simp] theorem c29_0e : Rg c29_0 c29_0l false := rgE _ _
@[simp] def c29_1l : List EO := [o 5 (.faddr 0) [t 2],
 o 6 (.load 1 false) [t 5],
 o 7 (.faddr 0) [t 3],
 o 8 (.load 1 false) [t 7],
 o 9 (.bin .eql) [t 6, t 8],
 m 10 9,
 y 11 10 (.faddr 1) [t 2],
 y 12 10 (.load 1 false) [t 11],
 y 13 10 (.faddr 1) [t 3],
 y 14 10 (.load 1 false) [t 13],
 y 15 10 (.eqv false false [0]) [t 12, t 14],
 o 16 .pick [t 10, t 15, b false],
 m 17 16,
 y 18 17 (.faddr 2) [t 2],
 y 19 17 (.load 1 false) [t 18],
 y 20 17 (.faddr 2) [t 3],
 y 21 17 (.load 1 false) [t 20],
 y 22 17 (.call 64) [t 19, t 21],
 o 23 .pick [t 17, t 22, b false],
 m 4 23]
def c29_1 : EC := .rg c29_1l false
@[simp] theorem c29_1e : Rg c29_1 c29_1l false := rgE _ _
def c29_2 : EC := .sq c29_1 .rt
@[simp] theorem c29_2e : Sq c29_2 c29_1 .rt := sqE _ _
def c29_3 : EC := .sq c29_0 c29_2
@[simp] theorem c29_3e : Sq c29_3 c29_0 c29_2 := sqE _ _
def c_compile_Same_29 : EC := c29_3
theorem k_29 : ecF Tryd.prog 29 = some (24, c_compile_Same_29, [.tm 4]) := by kernel_rfl

/-- tallystone/tallystoneref34.Same -/
@[simp] def c30_0l : List EO := [o 2 .box [t 0],
 o 3 .box [t 1],
 o 4 .mv [b false]]
def c30_0 : EC := .rg c30_0l false
@[simp] theorem c30_0e : Rg c30_0 c30_0l false := rgE _ _
@[simp] def c30_1l : List EO := [o 6 (.faddr 0) [t 2],
 o 7 (.load 1 false) [t 6],
 o 8 (.faddr 0) [t 3],
 o 9 (.load 1 false) [t 8],
 o 10 (.bin .neq) [t 7, t 9],
 m 11 10,
 n 12 11 (.faddr 1) [t 2],
 n 13 11 (.load 1 false) [t 12],
 n 14 11 (.faddr 1) [t 3],
 n 15 11 (.load 1 false) [t 14],
 n 16 11 (.eqv true false [0]) [t 13, t 15],
 o 17 .pick [t 11, b true, t 16],
 m 18 17,
 n 19 18 (.faddr 2) [t 2],
 n 20 18 (.load 1 false) [t 19],
 n 21 18 .lenL [t 20],
 n 22 18 (.faddr 2) [t 3],
 n 23 18 (.load 1 false) [t 22],
 n 24 18 .lenL [t 23],
 n 25 18 (.bin .neq) [t 21, t 24],
 o 26 .pick [t 18, b true, t 25]]
def c30_1 : EC := .rg c30_1l false
@[simp] theorem c30_1e : Rg c30_1 c30_1l false := rgE _ _
@[simp] def c30_2l : List EO := [o 4 .mv [b false]]
def c30_2 : EC := .rg c30_2l false
@[simp] theorem c30_2e : Rg c30_2 c30_2l false := rgE _ _
def c30_3 : EC := .sq c30_2 .rt
@[simp] theorem c30_3e : Sq c30_3 c30_2 .rt := sqE _ _
def c30_4 : EC := .cd (t 26) c30_3 .skip
@[simp] theorem c30_4e : Cd c30_4 (t 26) c30_3 .skip := cdE _ _ _
def c30_5 : EC := .sq c30_1 c30_4
@[simp] theorem c30_5e : Sq c30_5 c30_1 c30_4 := sqE _ _
@[simp] def c30_6l : List EO := [o 5 .mv [i 0]]
def c30_6 : EC := .rg c30_6l false
@[simp] theorem c30_6e : Rg c30_6 c30_6l false := rgE _ _
@[simp] def c30_7l : List EO := [m 27 5,
 o 28 (.faddr 2) [t 2],
 o 29 (.load 1 false) [t 28],
 o 30 .lenL [t 29],
 o 31 (.bin .lss) [t 27, t 30]]
def c30_7 : EC := .rg c30_7l false
@[simp] theorem c30_7e : Rg c30_7 c30_7l false := rgE _ _
def c30_8 : EC := .cd (t 31) .skip (.ex 0)
@[simp] theorem c30_8e : Cd c30_8 (t 31) .skip (.ex 0) := cdE _ _ _
def c30_9 : EC := .sq c30_7 c30_8
@[simp] theorem c30_9e : Sq c30_9 c30_7 c30_8 := sqE _ _
@[simp] def c30_10l : List EO := [o 34 (.faddr 2) [t 2],
 o 35 (.load 1 false) [t 34],
 m 36 5,
 o 37 (.iaS 3) [t 35, t 36],
 o 38 (.load 3 true) [t 37],
 o 39 (.faddr 2) [t 3],
 o 40 (.load 1 false) [t 39],
 m 41 5,
 o 42 (.iaS 3) [t 40, t 41],
 o 43 (.load 3 true) [t 42],
 o 44 (.eqv true true [1, 1, 1]) [t 38, t 43]]
def c30_10 : EC := .rg c30_10l true
@[simp] theorem c30_10e : Rg c30_10 c30_10l true := rgE _ _
@[simp] def c30_11l : List EO := [o 4 .mv [b false]]
def c30_11 : EC := .rg c30_11l false
@[simp] theorem c30_11e : Rg c30_11 c30_11l false := rgE _ _
def c30_12 : EC := .sq c30_11 .rt
@[simp] theorem c30_12e : Sq c30_12 c30_11 .rt := sqE _ _
def c30_13 : EC := .cd (t 44) c30_12 .skip
@[simp] theorem c30_13e : Cd c30_13 (t 44) c30_12 .skip := cdE _ _ _
def c30_14 : EC := .sq c30_10 c30_13
@[simp] theorem c30_14e : Sq c30_14 c30_10 c30_13 := sqE _ _
def c30_15 : EC := .bk 1 c30_14
@[simp] theorem c30_15e : Bk c30_15 1 c30_14 := bkE _ _
@[simp] def c30_16l : List EO := [m 32 5,
 o 33 (.bin .add) [t 32, i 1],
 m 5 33]
def c30_16 : EC := .rg c30_16l false
@[simp] theorem c30_16e : Rg c30_16 c30_16l false := rgE _ _
def c30_17 : EC := .sq c30_15 c30_16
@[simp] theorem c30_17e : Sq c30_17 c30_15 c30_16 := sqE _ _
def c30_18 : EC := .sq c30_9 c30_17
@[simp] theorem c30_18e : Sq c30_18 c30_9 c30_17 := sqE _ _
def c30_19 : EC := .bk 0 (.lp c30_18)
@[simp] theorem c30_19e : Bk c30_19 0 (.lp c30_18) := bkE _ _
def c30_20 : EC := .sq c30_6 c30_19
@[simp] theorem c30_20e : Sq c30_20 c30_6 c30_19 := sqE _ _
@[simp] def c30_21l : List EO := [o 4 .mv [b true]]
def c30_21 : EC := .rg c30_21l false
@[simp] theorem c30_21e : Rg c30_21 c30_21l false := rgE _ _
def c30_22 : EC := .sq c30_21 .rt
@[simp] theorem c30_22e : Sq c30_22 c30_21 .rt := sqE _ _
def c30_23 : EC := .sq c30_20 c30_22
@[simp] theorem c30_23e : Sq c30_23 c30_20 c30_22 := sqE _ _
def c30_24 : EC := .sq c30_5 c30_23
@[simp] theorem c30_24e : Sq c30_24 c30_5 c30_23 := sqE _ _
def c30_25 : EC := .sq c30_0 c30_24
@[simp] theorem c30_25e : Sq c30_25 c30_0 c30_24 := sqE _ _
def c_tallystoneref34_Same_30 : EC := c30_25
theorem k_30 : ecF Tryd.prog 30 = some (45, c_tallystoneref34_Same_30, [.tm 4]) := by kernel_rfl

/-- tallystone/tallystoneref34.Text -/
@[simp] def c31_0l : List EO := [o 1 .box [t 0],
 o 2 .mv [c (.t (.str []))]]
def c31_0 : EC := .rg c31_0l false
@[simp] theorem c31_0e : Rg c31_0 c31_0l false := rgE _ _
@[simp] def c31_1l : List EO := [o 6 (.bsl 1) [c (.t (.str [])), c (.t (.str [112, 117, 115, 104])), c (.t (.str [108, 111, 97, 100])), c (.t (.str [98, 97, 108, 97, 110, 99, 101])), c (.t (.str [112, 97, 114, 116, 110, 101, 114])), c (.t (.str [110, 101, 103])), c (.t (.str [97, 98, 115])), c (.t (.str [115, 104, 97, 114, 101])), c (.t (.str [110, 111, 116])), c (.t (.str [112, 101, 114])), c (.t (.str [97, 100, 100])), c (.t (.str [115, 117, 98])), c (.t (.str [109, 117, 108])), c (.t (.str [109, 105, 110])), c (.t (.str [109, 97, 120])), c (.t (.str [97, 110, 100])), c (.t (.str [111, 114])), c (.t (.str [108, 101, 115, 115])), c (.t (.str [108, 101, 115, 115, 101, 113, 117, 97, 108])), c (.t (.str [101, 113, 117, 97, 108])), c (.t (.str [110, 111, 116, 101, 113, 117, 97, 108])), c (.t (.str [103, 114, 101, 97, 116, 101, 114, 101, 113, 117, 97, 108])), c (.t (.str [103, 114, 101, 97, 116, 101, 114])), c (.t (.str [115, 116, 111, 114, 101])), c (.t (.str [114, 101, 113, 117, 105, 114, 101])), c (.t (.str [112, 111, 115, 116])), c (.t (.str [116, 111]))],
 m 3 6]
def c31_1 : EC := .rg c31_1l false
@[simp] theorem c31_1e : Rg c31_1 c31_1l false := rgE _ _
@[simp] def c31_2l : List EO := [o 4 .mv [c (.t (.str []))]]
def c31_2 : EC := .rg c31_2l false
@[simp] theorem c31_2e : Rg c31_2 c31_2l false := rgE _ _
@[simp] def c31_3l : List EO := [o 5 .mv [i 0]]
def c31_3 : EC := .rg c31_3l false
@[simp] theorem c31_3e : Rg c31_3 c31_3l false := rgE _ _
@[simp] def c31_4l : List EO := [m 7 5,
 o 8 (.faddr 2) [t 1],
 o 9 (.load 1 false) [t 8],
 o 10 .lenL [t 9],
 o 11 (.bin .lss) [t 7, t 10]]
def c31_4 : EC := .rg c31_4l false
@[simp] theorem c31_4e : Rg c31_4 c31_4l false := rgE _ _
def c31_5 : EC := .cd (t 11) .skip (.ex 0)
@[simp] theorem c31_5e : Cd c31_5 (t 11) .skip (.ex 0) := cdE _ _ _
def c31_6 : EC := .sq c31_4 c31_5
@[simp] theorem c31_6e : Sq c31_6 c31_4 c31_5 := sqE _ _
@[simp] def c31_7l : List EO := [m 14 4,
 m 15 3,
 o 16 (.faddr 2) [t 1],
 o 17 (.load 1 false) [t 16],
 m 18 5,
 o 19 (.iaS 3) [t 17, t 18],
 o 20 (.faddr 0) [t 19],
 o 21 (.load 1 false) [t 20],
 o 22 (.iaS 1) [t 15, t 21],
 o 23 (.load 1 false) [t 22],
 o 24 (.bin .add) [t 14, t 23],
 m 4 24]
def c31_7 : EC := .rg c31_7l false
@[simp] theorem c31_7e : Rg c31_7 c31_7l false := rgE _ _
@[simp] def c31_8l : List EO := [o 25 (.faddr 2) [t 1],
 o 26 (.load 1 false) [t 25],
 m 27 5,
 o 28 (.iaS 3) [t 26, t 27],
 o 29 (.faddr 0) [t 28],
 o 30 (.load 1 false) [t 29],
 o 31 (.call 65) [t 30],
 o 32 (.bin .geq) [t 31, i 1]]
def c31_8 : EC := .rg c31_8l false
@[simp] theorem c31_8e : Rg c31_8 c31_8l false := rgE _ _
@[simp] def c31_9l : List EO := [m 33 4,
 o 34 (.bin .add) [t 33, c (.t (.str [32]))],
 o 35 (.faddr 2) [t 1],
 o 36 (.load 1 false) [t 35],
 m 37 5,
 o 38 (.iaS 3) [t 36, t 37],
 o 39 (.faddr 1) [t 38],
 o 40 (.load 1 false) [t 39],
 o 41 (.call 66) [t 40],
 o 42 (.bin .add) [t 34, t 41],
 m 4 42]
def c31_9 : EC := .rg c31_9l false
@[simp] theorem c31_9e : Rg c31_9 c31_9l false := rgE _ _
def c31_10 : EC := .cd (t 32) c31_9 .skip
@[simp] theorem c31_10e : Cd c31_10 (t 32) c31_9 .skip := cdE _ _ _
def c31_11 : EC := .sq c31_8 c31_10
@[simp] theorem c31_11e : Sq c31_11 c31_8 c31_10 := sqE _ _
@[simp] def c31_12l : List EO := [o 43 (.faddr 2) [t 1],
 o 44 (.load 1 false) [t 43],
 m 45 5,
 o 46 (.iaS 3) [t 44, t 45],
 o 47 (.faddr 0) [t 46],
 o 48 (.load 1 false) [t 47],
 o 49 (.call 65) [t 48],
 o 50 (.bin .eql) [t 49, i 2]]
def c31_12 : EC := .rg c31_12l false
@[simp] theorem c31_12e : Rg c31_12 c31_12l false := rgE _ _
@[simp] def c31_13l : List EO := [m 51 4,
 o 52 (.bin .add) [t 51, c (.t (.str [32]))],
 o 53 (.faddr 2) [t 1],
 o 54 (.load 1 false) [t 53],
 m 55 5,
 o 56 (.iaS 3) [t 54, t 55],
 o 57 (.faddr 2) [t 56],
 o 58 (.load 1 false) [t 57],
 o 59 (.call 66) [t 58],
 o 60 (.bin .add) [t 52, t 59],
 m 4 60]
def c31_13 : EC := .rg c31_13l false
@[simp] theorem c31_13e : Rg c31_13 c31_13l false := rgE _ _
def c31_14 : EC := .cd (t 50) c31_13 .skip
@[simp] theorem c31_14e : Cd c31_14 (t 50) c31_13 .skip := cdE _ _ _
def c31_15 : EC := .sq c31_12 c31_14
@[simp] theorem c31_15e : Sq c31_15 c31_12 c31_14 := sqE _ _
@[simp] def c31_16l : List EO := [m 61 4,
 o 62 (.bin .add) [t 61, c (.t (.str [10]))],
 m 4 62]
def c31_16 : EC := .rg c31_16l false
@[simp] theorem c31_16e : Rg c31_16 c31_16l false := rgE _ _
def c31_17 : EC := .sq c31_15 c31_16
@[simp] theorem c31_17e : Sq c31_17 c31_15 c31_16 := sqE _ _
def c31_18 : EC := .sq c31_11 c31_17
@[simp] theorem c31_18e : Sq c31_18 c31_11 c31_17 := sqE _ _
def c31_19 : EC := .sq c31_7 c31_18
@[simp] theorem c31_19e : Sq c31_19 c31_7 c31_18 := sqE _ _
def c31_20 : EC := .bk 1 c31_19
@[simp] theorem c31_20e : Bk c31_20 1 c31_19 := bkE _ _
@[simp] def c31_21l : List EO := [m 12 5,
 o 13 (.bin .add) [t 12, i 1],
 m 5 13]
def c31_21 : EC := .rg c31_21l false
@[simp] theorem c31_21e : Rg c31_21 c31_21l false := rgE _ _
def c31_22 : EC := .sq c31_20 c31_21
@[simp] theorem c31_22e : Sq c31_22 c31_20 c31_21 := sqE _ _
def c31_23 : EC := .sq c31_6 c31_22
@[simp] theorem c31_23e : Sq c31_23 c31_6 c31_22 := sqE _ _
def c31_24 : EC := .bk 0 (.lp c31_23)
@[simp] theorem c31_24e : Bk c31_24 0 (.lp c31_23) := bkE _ _
def c31_25 : EC := .sq c31_3 c31_24
@[simp] theorem c31_25e : Sq c31_25 c31_3 c31_24 := sqE _ _
@[simp] def c31_26l : List EO := [m 63 4,
 m 2 63]
def c31_26 : EC := .rg c31_26l false
@[simp] theorem c31_26e : Rg c31_26 c31_26l false := rgE _ _
def c31_27 : EC := .sq c31_26 .rt
@[simp] theorem c31_27e : Sq c31_27 c31_26 .rt := sqE _ _
def c31_28 : EC := .sq c31_25 c31_27
@[simp] theorem c31_28e : Sq c31_28 c31_25 c31_27 := sqE _ _
def c31_29 : EC := .sq c31_2 c31_28
@[simp] theorem c31_29e : Sq c31_29 c31_2 c31_28 := sqE _ _
def c31_30 : EC := .sq c31_1 c31_29
@[simp] theorem c31_30e : Sq c31_30 c31_1 c31_29 := sqE _ _
def c31_31 : EC := .sq c31_0 c31_30
@[simp] theorem c31_31e : Sq c31_31 c31_0 c31_30 := sqE _ _
def c_tallystoneref34_Text_31 : EC := c31_31
theorem k_31 : ecF Tryd.prog 31 = some (64, c_tallystoneref34_Text_31, [.tm 2]) := by kernel_rfl

/-- tallystone/tallystoneref34.Fold -/
@[simp] def c32_0l : List EO := [o 1 .box [t 0],
 o 2 (.alloc [.t (.str []), .t (.bool false), .snil]) []]
def c32_0 : EC := .rg c32_0l false
@[simp] theorem c32_0e : Rg c32_0 c32_0l false := rgE _ _
@[simp] def c32_1l : List EO := [o 15 (.faddr 0) [t 1],
 o 16 (.load 1 false) [t 15],
 o 17 (.faddr 1) [t 1],
 o 18 (.load 1 false) [t 17],
 o 19 (.build [.t (.str []), .t (.bool false), .snil] [(0, 1), (1, 1)]) [t 16, t 18],
 o 3 (.alloc [.t (.str []), .t (.bool false), .snil]) [],
 u (.store 3) [t 3, t 19]]
def c32_1 : EC := .rg c32_1l false
@[simp] theorem c32_1e : Rg c32_1 c32_1l false := rgE _ _
@[simp] def c32_2l : List EO := [o 4 .mv [i 0]]
def c32_2 : EC := .rg c32_2l false
@[simp] theorem c32_2e : Rg c32_2 c32_2l false := rgE _ _
@[simp] def c32_3l : List EO := [m 20 4,
 o 21 (.faddr 2) [t 1],
 o 22 (.load 1 false) [t 21],
 o 23 .lenL [t 22],
 o 24 (.bin .lss) [t 20, t 23]]
def c32_3 : EC := .rg c32_3l false
@[simp] theorem c32_3e : Rg c32_3 c32_3l false := rgE _ _
def c32_4 : EC := .cd (t 24) .skip (.ex 0)
@[simp] theorem c32_4e : Cd c32_4 (t 24) .skip (.ex 0) := cdE _ _ _
def c32_5 : EC := .sq c32_3 c32_4
@[simp] theorem c32_5e : Sq c32_5 c32_3 c32_4 := sqE _ _
@[simp] def c32_6l : List EO := [o 27 (.faddr 2) [t 1],
 o 28 (.load 1 false) [t 27],
 m 29 4,
 o 30 (.iaS 3) [t 28, t 29],
 o 31 (.load 3 true) [t 30],
 o 5 (.alloc [.t (.int .i64 0), .t (.int .i64 0), .t (.int .i64 0)]) [],
 u (.store 3) [t 5, t 31]]
def c32_6 : EC := .rg c32_6l false
@[simp] theorem c32_6e : Rg c32_6 c32_6l false := rgE _ _
@[simp] def c32_7l : List EO := [o 33 (.faddr 0) [t 5],
 o 34 (.load 1 false) [t 33],
 o 35 (.call 67) [t 34],
 m 32 35,
 o 36 (.ext 0) [t 32],
 o 37 (.ext 1) [t 32],
 m 6 36,
 m 7 37]
def c32_7 : EC := .rg c32_7l false
@[simp] theorem c32_7e : Rg c32_7 c32_7l false := rgE _ _
@[simp] def c32_8l : List EO := [o 38 (.faddr 2) [t 3],
 o 39 (.load 1 false) [t 38],
 o 40 .lenL [t 39],
 m 8 40]
def c32_8 : EC := .rg c32_8l false
@[simp] theorem c32_8e : Rg c32_8 c32_8l false := rgE _ _
@[simp] def c32_9l : List EO := [m 41 6,
 o 42 (.bin .gtr) [t 41, i 0],
 m 43 42,
 y 44 43 .mv [t 7],
 y 45 43 (.bin .gtr) [t 44, i 0],
 o 46 .pick [t 43, t 45, b false],
 m 47 46,
 y 48 47 (.faddr 0) [t 5],
 y 49 47 (.load 1 false) [t 48],
 y 50 47 (.bin .neq) [t 49, i 7],
 o 51 .pick [t 47, t 50, b false],
 m 52 51,
 y 53 52 .mv [t 8],
 y 54 52 .mv [t 6],
 y 55 52 (.bin .geq) [t 53, t 54],
 o 56 .pick [t 52, t 55, b false],
 m 9 56]
def c32_9 : EC := .rg c32_9l false
@[simp] theorem c32_9e : Rg c32_9 c32_9l false := rgE _ _
@[simp] def c32_10l : List EO := [o 10 .mv [i 0]]
def c32_10 : EC := .rg c32_10l false
@[simp] theorem c32_10e : Rg c32_10 c32_10l false := rgE _ _
@[simp] def c32_11l : List EO := [m 57 10,
 m 58 6,
 o 59 (.bin .lss) [t 57, t 58],
 m 60 59,
 y 61 60 .mv [t 9],
 o 62 .pick [t 60, t 61, b false]]
def c32_11 : EC := .rg c32_11l false
@[simp] theorem c32_11e : Rg c32_11 c32_11l false := rgE _ _
def c32_12 : EC := .cd (t 62) .skip (.ex 2)
@[simp] theorem c32_12e : Cd c32_12 (t 62) .skip (.ex 2) := cdE _ _ _
def c32_13 : EC := .sq c32_11 c32_12
@[simp] theorem c32_13e : Sq c32_13 c32_11 c32_12 := sqE _ _
@[simp] def c32_14l : List EO := [o 65 (.faddr 2) [t 3],
 o 66 (.load 1 false) [t 65],
 m 67 8,
 o 68 (.bin .sub) [t 67, i 1],
 m 69 10,
 o 70 (.bin .sub) [t 68, t 69],
 o 71 (.iaS 3) [t 66, t 70],
 o 72 (.faddr 0) [t 71],
 o 73 (.load 1 false) [t 72],
 o 74 (.bin .eql) [t 73, i 1],
 m 9 74]
def c32_14 : EC := .rg c32_14l false
@[simp] theorem c32_14e : Rg c32_14 c32_14l false := rgE _ _
def c32_15 : EC := .bk 3 c32_14
@[simp] theorem c32_15e : Bk c32_15 3 c32_14 := bkE _ _
@[simp] def c32_16l : List EO := [m 63 10,
 o 64 (.bin .add) [t 63, i 1],
 m 10 64]
def c32_16 : EC := .rg c32_16l false
@[simp] theorem c32_16e : Rg c32_16 c32_16l false := rgE _ _
def c32_17 : EC := .sq c32_15 c32_16
@[simp] theorem c32_17e : Sq c32_17 c32_15 c32_16 := sqE _ _
def c32_18 : EC := .sq c32_13 c32_17
@[simp] theorem c32_18e : Sq c32_18 c32_13 c32_17 := sqE _ _
def c32_19 : EC := .bk 2 (.lp c32_18)
@[simp] theorem c32_19e : Bk c32_19 2 (.lp c32_18) := bkE _ _
def c32_20 : EC := .sq c32_10 c32_19
@[simp] theorem c32_20e : Sq c32_20 c32_10 c32_19 := sqE _ _
@[simp] def c32_21l : List EO := [m 75 9]
def c32_21 : EC := .rg c32_21l false
@[simp] theorem c32_21e : Rg c32_21 c32_21l false := rgE _ _
@[simp] def c32_22l : List EO := [o 76 (.faddr 2) [t 3],
 o 77 (.load 1 false) [t 76],
 m 78 8,
 m 79 6,
 o 80 (.bin .sub) [t 78, t 79],
 o 81 (.iaS 3) [t 77, t 80],
 o 82 (.faddr 1) [t 81],
 o 83 (.load 1 false) [t 82],
 m 11 83,
 o 12 .mv [i 0]]
def c32_22 : EC := .rg c32_22l false
@[simp] theorem c32_22e : Rg c32_22 c32_22l false := rgE _ _
@[simp] def c32_23l : List EO := [m 84 6,
 o 85 (.bin .eql) [t 84, i 2]]
def c32_23 : EC := .rg c32_23l false
@[simp] theorem c32_23e : Rg c32_23 c32_23l false := rgE _ _
@[simp] def c32_24l : List EO := [o 86 (.faddr 2) [t 3],
 o 87 (.load 1 false) [t 86],
 m 88 8,
 o 89 (.bin .sub) [t 88, i 1],
 o 90 (.iaS 3) [t 87, t 89],
 o 91 (.faddr 1) [t 90],
 o 92 (.load 1 false) [t 91],
 m 12 92]
def c32_24 : EC := .rg c32_24l false
@[simp] theorem c32_24e : Rg c32_24 c32_24l false := rgE _ _
def c32_25 : EC := .cd (t 85) c32_24 .skip
@[simp] theorem c32_25e : Cd c32_25 (t 85) c32_24 .skip := cdE _ _ _
def c32_26 : EC := .sq c32_23 c32_25
@[simp] theorem c32_26e : Sq c32_26 c32_23 c32_25 := sqE _ _
@[simp] def c32_27l : List EO := [o 94 (.faddr 0) [t 5],
 o 95 (.load 1 false) [t 94],
 o 96 (.faddr 1) [t 5],
 o 97 (.load 1 false) [t 96],
 m 98 11,
 m 99 12,
 o 100 (.call 14) [t 95, t 97, t 98, t 99],
 m 93 100,
 o 101 (.ext 0) [t 93],
 o 102 (.ext 1) [t 93],
 m 13 101,
 m 14 102]
def c32_27 : EC := .rg c32_27l false
@[simp] theorem c32_27e : Rg c32_27 c32_27l false := rgE _ _
@[simp] def c32_28l : List EO := [m 103 14]
def c32_28 : EC := .rg c32_28l false
@[simp] theorem c32_28e : Rg c32_28 c32_28l false := rgE _ _
@[simp] def c32_29l : List EO := [o 104 (.bsl 3) [],
 o 105 (.faddr 2) [t 3],
 o 106 (.load 1 false) [t 105],
 m 107 8,
 m 108 6,
 o 109 (.bin .sub) [t 107, t 108],
 o 110 (.slL 3 false true false) [t 106, t 109],
 o 111 (.app 103 3 24) [t 104, t 110],
 m 112 13,
 o 113 (.build [.t (.int .i64 0), .t (.int .i64 0), .t (.int .i64 0)] [(0, 1), (1, 1), (2, 1)]) [i 1, t 112, i 0],
 o 114 (.bsl 3) [t 113],
 o 115 (.app 103 3 24) [t 111, t 114],
 o 116 (.faddr 2) [t 3],
 u (.store 1) [t 116, t 115]]
def c32_29 : EC := .rg c32_29l false
@[simp] theorem c32_29e : Rg c32_29 c32_29l false := rgE _ _
def c32_30 : EC := .sq c32_29 (.ex 1)
@[simp] theorem c32_30e : Sq c32_30 c32_29 (.ex 1) := sqE _ _
def c32_31 : EC := .cd (t 103) c32_30 .skip
@[simp] theorem c32_31e : Cd c32_31 (t 103) c32_30 .skip := cdE _ _ _
def c32_32 : EC := .sq c32_28 c32_31
@[simp] theorem c32_32e : Sq c32_32 c32_28 c32_31 := sqE _ _
def c32_33 : EC := .sq c32_27 c32_32
@[simp] theorem c32_33e : Sq c32_33 c32_27 c32_32 := sqE _ _
def c32_34 : EC := .sq c32_26 c32_33
@[simp] theorem c32_34e : Sq c32_34 c32_26 c32_33 := sqE _ _
def c32_35 : EC := .sq c32_22 c32_34
@[simp] theorem c32_35e : Sq c32_35 c32_22 c32_34 := sqE _ _
def c32_36 : EC := .cd (t 75) c32_35 .skip
@[simp] theorem c32_36e : Cd c32_36 (t 75) c32_35 .skip := cdE _ _ _
def c32_37 : EC := .sq c32_21 c32_36
@[simp] theorem c32_37e : Sq c32_37 c32_21 c32_36 := sqE _ _
@[simp] def c32_38l : List EO := [o 117 (.faddr 2) [t 3],
 o 118 (.load 1 false) [t 117],
 o 119 (.load 3 true) [t 5],
 o 120 (.bsl 3) [t 119],
 o 121 (.app 103 3 24) [t 118, t 120],
 o 122 (.faddr 2) [t 3],
 u (.store 1) [t 122, t 121]]
def c32_38 : EC := .rg c32_38l false
@[simp] theorem c32_38e : Rg c32_38 c32_38l false := rgE _ _
def c32_39 : EC := .sq c32_37 c32_38
@[simp] theorem c32_39e : Sq c32_39 c32_37 c32_38 := sqE _ _
def c32_40 : EC := .sq c32_20 c32_39
@[simp] theorem c32_40e : Sq c32_40 c32_20 c32_39 := sqE _ _
def c32_41 : EC := .sq c32_9 c32_40
@[simp] theorem c32_41e : Sq c32_41 c32_9 c32_40 := sqE _ _
def c32_42 : EC := .sq c32_8 c32_41
@[simp] theorem c32_42e : Sq c32_42 c32_8 c32_41 := sqE _ _
def c32_43 : EC := .sq c32_7 c32_42
@[simp] theorem c32_43e : Sq c32_43 c32_7 c32_42 := sqE _ _
def c32_44 : EC := .sq c32_6 c32_43
@[simp] theorem c32_44e : Sq c32_44 c32_6 c32_43 := sqE _ _
def c32_45 : EC := .bk 1 c32_44
@[simp] theorem c32_45e : Bk c32_45 1 c32_44 := bkE _ _
@[simp] def c32_46l : List EO := [m 25 4,
 o 26 (.bin .add) [t 25, i 1],
 m 4 26]
def c32_46 : EC := .rg c32_46l false
@[simp] theorem c32_46e : Rg c32_46 c32_46l false := rgE _ _
def c32_47 : EC := .sq c32_45 c32_46
@[simp] theorem c32_47e : Sq c32_47 c32_45 c32_46 := sqE _ _
def c32_48 : EC := .sq c32_5 c32_47
@[simp] theorem c32_48e : Sq c32_48 c32_5 c32_47 := sqE _ _
def c32_49 : EC := .bk 0 (.lp c32_48)
@[simp] theorem c32_49e : Bk c32_49 0 (.lp c32_48) := bkE _ _
def c32_50 : EC := .sq c32_2 c32_49
@[simp] theorem c32_50e : Sq c32_50 c32_2 c32_49 := sqE _ _
@[simp] def c32_51l : List EO := [o 123 (.load 3 true) [t 3],
 u (.store 3) [t 2, t 123]]
def c32_51 : EC := .rg c32_51l false
@[simp] theorem c32_51e : Rg c32_51 c32_51l false := rgE _ _
def c32_52 : EC := .sq c32_51 .rt
@[simp] theorem c32_52e : Sq c32_52 c32_51 .rt := sqE _ _
def c32_53 : EC := .sq c32_50 c32_52
@[simp] theorem c32_53e : Sq c32_53 c32_50 c32_52 := sqE _ _
def c32_54 : EC := .sq c32_1 c32_53
@[simp] theorem c32_54e : Sq c32_54 c32_1 c32_53 := sqE _ _
def c32_55 : EC := .sq c32_0 c32_54
@[simp] theorem c32_55e : Sq c32_55 c32_0 c32_54 := sqE _ _
def c_tallystoneref34_Fold_32 : EC := c32_55
theorem k_32 : ecF Tryd.prog 32 = some (124, c_tallystoneref34_Fold_32, [.ce 2 3 true]) := by kernel_rfl

/-- tallystone/compile.amount -/
@[simp] def c45_0l : List EO := [o 2 .mv [b false]]
def c45_0 : EC := .rg c45_0l false
@[simp] theorem c45_0e : Rg c45_0 c45_0l false := rgE _ _
@[simp] def c45_1l : List EO := [m 3 0,
 o 4 (.bin .geq) [t 3, i (-1000000000000)],
 m 5 4,
 y 6 5 .mv [t 0],
 y 7 5 (.bin .leq) [t 6, i 1000000000000],
 o 8 .pick [t 5, t 7, b false],
 m 2 8]
def c45_1 : EC := .rg c45_1l false
@[simp] theorem c45_1e : Rg c45_1 c45_1l false := rgE _ _
def c45_2 : EC := .sq c45_1 .rt
@[simp] theorem c45_2e : Sq c45_2 c45_1 .rt := sqE _ _
def c45_3 : EC := .sq c45_0 c45_2
@[simp] theorem c45_3e : Sq c45_3 c45_0 c45_2 := sqE _ _
def c_compile_amount_45 : EC := c45_3
theorem k_45 : ecF Tryd.prog 45 = some (9, c_compile_amount_45, [.tm 2]) := by kernel_rfl

/-- tallystone/compile.truth -/
@[simp] def c46_0l : List EO := [o 2 .mv [i 0]]
def c46_0 : EC := .rg c46_0l false
@[simp] theorem c46_0e : Rg c46_0 c46_0l false := rgE _ _
@[simp] def c46_1l : List EO := [m 3 0]
def c46_1 : EC := .rg c46_1l false
@[simp] theorem c46_1e : Rg c46_1 c46_1l false := rgE _ _
@[simp] def c46_2l : List EO := [o 2 .mv [i 1]]
def c46_2 : EC := .rg c46_2l false
@[simp] theorem c46_2e : Rg c46_2 c46_2l false := rgE _ _
def c46_3 : EC := .sq c46_2 .rt
@[simp] theorem c46_3e : Sq c46_3 c46_2 .rt := sqE _ _
def c46_4 : EC := .cd (t 3) c46_3 .skip
@[simp] theorem c46_4e : Cd c46_4 (t 3) c46_3 .skip := cdE _ _ _
def c46_5 : EC := .sq c46_1 c46_4
@[simp] theorem c46_5e : Sq c46_5 c46_1 c46_4 := sqE _ _
@[simp] def c46_6l : List EO := [o 2 .mv [i 0]]
def c46_6 : EC := .rg c46_6l false
@[simp] theorem c46_6e : Rg c46_6 c46_6l false := rgE _ _
def c46_7 : EC := .sq c46_6 .rt
@[simp] theorem c46_7e : Sq c46_7 c46_6 .rt := sqE _ _
def c46_8 : EC := .sq c46_5 c46_7
@[simp] theorem c46_8e : Sq c46_8 c46_5 c46_7 := sqE _ _
def c46_9 : EC := .sq c46_0 c46_8
@[simp] theorem c46_9e : Sq c46_9 c46_0 c46_8 := sqE _ _
def c_compile_truth_46 : EC := c46_9
theorem k_46 : ecF Tryd.prog 46 = some (4, c_compile_truth_46, [.tm 2]) := by kernel_rfl

/-- tallystone/compile.product -/
@[simp] def c47_0l : List EO := [o 4 .mv [i 0],
 o 5 .mv [b false]]
def c47_0 : EC := .rg c47_0l false
@[simp] theorem c47_0e : Rg c47_0 c47_0l false := rgE _ _
@[simp] def c47_1l : List EO := [m 6 0,
 o 7 (.bin .eql) [t 6, i 0],
 m 8 7,
 n 9 8 .mv [t 1],
 n 10 8 (.bin .eql) [t 9, i 0],
 o 11 .pick [t 8, b true, t 10]]
def c47_1 : EC := .rg c47_1l false
@[simp] theorem c47_1e : Rg c47_1 c47_1l false := rgE _ _
@[simp] def c47_2l : List EO := [o 4 .mv [i 0],
 o 5 .mv [b true]]
def c47_2 : EC := .rg c47_2l false
@[simp] theorem c47_2e : Rg c47_2 c47_2l false := rgE _ _
def c47_3 : EC := .sq c47_2 .rt
@[simp] theorem c47_3e : Sq c47_3 c47_2 .rt := sqE _ _
def c47_4 : EC := .cd (t 11) c47_3 .skip
@[simp] theorem c47_4e : Cd c47_4 (t 11) c47_3 .skip := cdE _ _ _
def c47_5 : EC := .sq c47_1 c47_4
@[simp] theorem c47_5e : Sq c47_5 c47_1 c47_4 := sqE _ _
@[simp] def c47_6l : List EO := [m 12 1,
 m 13 1,
 o 14 (.un .neg) [t 13],
 o 15 (.mm true) [t 12, t 14],
 m 16 0,
 m 17 0,
 o 18 (.un .neg) [t 17],
 o 19 (.mm true) [t 16, t 18],
 o 20 (.bin .quo) [i 1000000000000, t 19],
 o 21 (.bin .gtr) [t 15, t 20]]
def c47_6 : EC := .rg c47_6l false
@[simp] theorem c47_6e : Rg c47_6 c47_6l false := rgE _ _
@[simp] def c47_7l : List EO := [o 4 .mv [i 0],
 o 5 .mv [b false]]
def c47_7 : EC := .rg c47_7l false
@[simp] theorem c47_7e : Rg c47_7 c47_7l false := rgE _ _
def c47_8 : EC := .sq c47_7 .rt
@[simp] theorem c47_8e : Sq c47_8 c47_7 .rt := sqE _ _
def c47_9 : EC := .cd (t 21) c47_8 .skip
@[simp] theorem c47_9e : Cd c47_9 (t 21) c47_8 .skip := cdE _ _ _
def c47_10 : EC := .sq c47_6 c47_9
@[simp] theorem c47_10e : Sq c47_10 c47_6 c47_9 := sqE _ _
@[simp] def c47_11l : List EO := [m 22 0,
 m 23 1,
 o 24 (.bin .mul) [t 22, t 23],
 m 4 24,
 o 5 .mv [b true]]
def c47_11 : EC := .rg c47_11l false
@[simp] theorem c47_11e : Rg c47_11 c47_11l false := rgE _ _
def c47_12 : EC := .sq c47_11 .rt
@[simp] theorem c47_12e : Sq c47_12 c47_11 .rt := sqE _ _
def c47_13 : EC := .sq c47_10 c47_12
@[simp] theorem c47_13e : Sq c47_13 c47_10 c47_12 := sqE _ _
def c47_14 : EC := .sq c47_5 c47_13
@[simp] theorem c47_14e : Sq c47_14 c47_5 c47_13 := sqE _ _
def c47_15 : EC := .sq c47_0 c47_14
@[simp] theorem c47_15e : Sq c47_15 c47_0 c47_14 := sqE _ _
def c_compile_product_47 : EC := c47_15
theorem k_47 : ecF Tryd.prog 47 = some (25, c_compile_product_47, [.tm 4, .tm 5]) := by kernel_rfl

/-- tallystone/tallystoneref34.truth -/
@[simp] def c48_0l : List EO := [o 2 .mv [i 0]]
def c48_0 : EC := .rg c48_0l false
@[simp] theorem c48_0e : Rg c48_0 c48_0l false := rgE _ _
@[simp] def c48_1l : List EO := [m 3 0]
def c48_1 : EC := .rg c48_1l false
@[simp] theorem c48_1e : Rg c48_1 c48_1l false := rgE _ _
@[simp] def c48_2l : List EO := [o 2 .mv [i 1]]
def c48_2 : EC := .rg c48_2l false
@[simp] theorem c48_2e : Rg c48_2 c48_2l false := rgE _ _
def c48_3 : EC := .sq c48_2 .rt
@[simp] theorem c48_3e : Sq c48_3 c48_2 .rt := sqE _ _
def c48_4 : EC := .cd (t 3) c48_3 .skip
@[simp] theorem c48_4e : Cd c48_4 (t 3) c48_3 .skip := cdE _ _ _
def c48_5 : EC := .sq c48_1 c48_4
@[simp] theorem c48_5e : Sq c48_5 c48_1 c48_4 := sqE _ _
@[simp] def c48_6l : List EO := [o 2 .mv [i 0]]
def c48_6 : EC := .rg c48_6l false
@[simp] theorem c48_6e : Rg c48_6 c48_6l false := rgE _ _
def c48_7 : EC := .sq c48_6 .rt
@[simp] theorem c48_7e : Sq c48_7 c48_6 .rt := sqE _ _
def c48_8 : EC := .sq c48_5 c48_7
@[simp] theorem c48_8e : Sq c48_8 c48_5 c48_7 := sqE _ _
def c48_9 : EC := .sq c48_0 c48_8
@[simp] theorem c48_9e : Sq c48_9 c48_0 c48_8 := sqE _ _
def c_tallystoneref34_truth_48 : EC := c48_9
theorem k_48 : ecF Tryd.prog 48 = some (4, c_tallystoneref34_truth_48, [.tm 2]) := by kernel_rfl

/-- tallystone/compile.measure -/
@[simp] def c55_0l : List EO := [o 1 .box [t 0],
 o 2 .mv [i 0],
 o 3 .mv [b false]]
def c55_0 : EC := .rg c55_0l false
@[simp] theorem c55_0e : Rg c55_0 c55_0l false := rgE _ _
@[simp] def c55_1l : List EO := [o 4 .mv [i 0],
 o 5 .mv [i 0],
 o 6 .mv [i 0]]
def c55_1 : EC := .rg c55_1l false
@[simp] theorem c55_1e : Rg c55_1 c55_1l false := rgE _ _
@[simp] def c55_2l : List EO := [o 11 (.faddr 2) [t 1],
 o 12 (.load 1 false) [t 11],
 o 13 .lenL [t 12],
 o 14 (.bin .eql) [t 13, i 0]]
def c55_2 : EC := .rg c55_2l false
@[simp] theorem c55_2e : Rg c55_2 c55_2l false := rgE _ _
@[simp] def c55_3l : List EO := [o 2 .mv [i 0],
 o 3 .mv [b false]]
def c55_3 : EC := .rg c55_3l false
@[simp] theorem c55_3e : Rg c55_3 c55_3l false := rgE _ _
def c55_4 : EC := .sq c55_3 .rt
@[simp] theorem c55_4e : Sq c55_4 c55_3 .rt := sqE _ _
def c55_5 : EC := .cd (t 14) c55_4 .skip
@[simp] theorem c55_5e : Cd c55_5 (t 14) c55_4 .skip := cdE _ _ _
def c55_6 : EC := .sq c55_2 c55_5
@[simp] theorem c55_6e : Sq c55_6 c55_2 c55_5 := sqE _ _
@[simp] def c55_7l : List EO := [o 15 (.call 57) [],
 o 7 (.alloc [.t (.str []), .t (.int .i64 0), .t (.int .i64 0), .t (.int .i64 0), .t (.str []), .t (.int .i64 0), .t (.int .i64 0), .t (.int .i64 0), .t (.str []), .t (.int .i64 0), .t (.int .i64 0), .t (.int .i64 0), .t (.str []), .t (.int .i64 0), .t (.int .i64 0), .t (.int .i64 0), .t (.str []), .t (.int .i64 0), .t (.int .i64 0), .t (.int .i64 0), .t (.str []), .t (.int .i64 0), .t (.int .i64 0), .t (.int .i64 0), .t (.str []), .t (.int .i64 0), .t (.int .i64 0), .t (.int .i64 0), .t (.str []), .t (.int .i64 0), .t (.int .i64 0), .t (.int .i64 0), .t (.str []), .t (.int .i64 0), .t (.int .i64 0), .t (.int .i64 0), .t (.str []), .t (.int .i64 0), .t (.int .i64 0), .t (.int .i64 0), .t (.str []), .t (.int .i64 0), .t (.int .i64 0), .t (.int .i64 0), .t (.str []), .t (.int .i64 0), .t (.int .i64 0), .t (.int .i64 0), .t (.str []), .t (.int .i64 0), .t (.int .i64 0), .t (.int .i64 0), .t (.str []), .t (.int .i64 0), .t (.int .i64 0), .t (.int .i64 0), .t (.str []), .t (.int .i64 0), .t (.int .i64 0), .t (.int .i64 0), .t (.str []), .t (.int .i64 0), .t (.int .i64 0), .t (.int .i64 0), .t (.str []), .t (.int .i64 0), .t (.int .i64 0), .t (.int .i64 0), .t (.str []), .t (.int .i64 0), .t (.int .i64 0), .t (.int .i64 0), .t (.str []), .t (.int .i64 0), .t (.int .i64 0), .t (.int .i64 0), .t (.str []), .t (.int .i64 0), .t (.int .i64 0), .t (.int .i64 0), .t (.str []), .t (.int .i64 0), .t (.int .i64 0), .t (.int .i64 0), .t (.str []), .t (.int .i64 0), .t (.int .i64 0), .t (.int .i64 0), .t (.str []), .t (.int .i64 0), .t (.int .i64 0), .t (.int .i64 0), .t (.str []), .t (.int .i64 0), .t (.int .i64 0), .t (.int .i64 0), .t (.str []), .t (.int .i64 0), .t (.int .i64 0), .t (.int .i64 0), .t (.str []), .t (.int .i64 0), .t (.int .i64 0), .t (.int .i64 0), .t (.str []), .t (.int .i64 0), .t (.int .i64 0), .t (.int .i64 0)]) [],
 u (.store 108) [t 7, t 15]]
def c55_7 : EC := .rg c55_7l false
@[simp] theorem c55_7e : Rg c55_7 c55_7l false := rgE _ _
@[simp] def c55_8l : List EO := [o 16 (.faddr 2) [t 1],
 o 17 (.load 1 false) [t 16],
 o 18 .lenL [t 17],
 o 19 .mv [i 0]]
def c55_8 : EC := .rg c55_8l false
@[simp] theorem c55_8e : Rg c55_8 c55_8l false := rgE _ _
@[simp] def c55_9l : List EO := [o 20 (.bin .lss) [t 19, t 18]]
def c55_9 : EC := .rg c55_9l false
@[simp] theorem c55_9e : Rg c55_9 c55_9l false := rgE _ _
def c55_10 : EC := .cd (t 20) .skip (.ex 0)
@[simp] theorem c55_10e : Cd c55_10 (t 20) .skip (.ex 0) := cdE _ _ _
@[simp] def c55_11l : List EO := [m 21 19,
 o 22 (.iaS 3) [t 17, t 19],
 o 23 (.load 3 true) [t 22],
 o 9 (.alloc [.t (.int .i64 0), .t (.int .i64 0), .t (.int .i64 0)]) [],
 m 8 21,
 u (.store 3) [t 9, t 23]]
def c55_11 : EC := .rg c55_11l false
@[simp] theorem c55_11e : Rg c55_11 c55_11l false := rgE _ _
@[simp] def c55_12l : List EO := [o 24 (.faddr 0) [t 9],
 o 25 (.load 1 false) [t 24],
 o 26 (.bin .lss) [t 25, i 1],
 m 27 26,
 n 28 27 (.faddr 0) [t 9],
 n 29 27 (.load 1 false) [t 28],
 n 30 27 (.bin .gtr) [t 29, i 26],
 o 31 .pick [t 27, b true, t 30],
 m 32 31,
 n 33 32 (.faddr 0) [t 9],
 n 34 32 (.load 1 false) [t 33],
 n 35 32 (.bin .eql) [t 34, i 26],
 n 36 32 .mv [t 8],
 n 37 32 (.faddr 2) [t 1],
 n 38 32 (.load 1 false) [t 37],
 n 39 32 .lenL [t 38],
 n 40 32 (.bin .sub) [t 39, i 1],
 n 41 32 (.bin .eql) [t 36, t 40],
 n 42 32 (.eqv true false [0]) [t 35, t 41],
 o 43 .pick [t 32, b true, t 42],
 m 44 43,
 n 45 44 (.load 3 true) [t 9],
 n 46 44 (.load 3 true) [t 1],
 n 47 44 .mv [t 6],
 n 48 44 (.call 92) [t 45, t 46, t 47],
 n 49 44 (.un .not) [t 48],
 o 50 .pick [t 44, b true, t 49]]
def c55_12 : EC := .rg c55_12l false
@[simp] theorem c55_12e : Rg c55_12 c55_12l false := rgE _ _
@[simp] def c55_13l : List EO := [o 2 .mv [i 0],
 o 3 .mv [b false]]
def c55_13 : EC := .rg c55_13l false
@[simp] theorem c55_13e : Rg c55_13 c55_13l false := rgE _ _
def c55_14 : EC := .sq c55_13 .rt
@[simp] theorem c55_14e : Sq c55_14 c55_13 .rt := sqE _ _
def c55_15 : EC := .cd (t 50) c55_14 .skip
@[simp] theorem c55_15e : Cd c55_15 (t 50) c55_14 .skip := cdE _ _ _
def c55_16 : EC := .sq c55_12 c55_15
@[simp] theorem c55_16e : Sq c55_16 c55_12 c55_15 := sqE _ _
@[simp] def c55_17l : List EO := [o 51 (.faddr 0) [t 9],
 o 52 (.load 1 false) [t 51],
 o 53 (.iaA 27 4) [t 7, t 52],
 o 54 (.load 4 true) [t 53],
 o 10 (.alloc [.t (.str []), .t (.int .i64 0), .t (.int .i64 0), .t (.int .i64 0)]) [],
 u (.store 4) [t 10, t 54]]
def c55_17 : EC := .rg c55_17l false
@[simp] theorem c55_17e : Rg c55_17 c55_17l false := rgE _ _
@[simp] def c55_18l : List EO := [m 55 5,
 o 56 (.faddr 1) [t 10],
 o 57 (.load 1 false) [t 56],
 o 58 (.bin .lss) [t 55, t 57],
 m 59 58,
 n 60 59 (.faddr 2) [t 10],
 n 61 59 (.load 1 false) [t 60],
 n 62 59 (.bin .eql) [t 61, i 0],
 n 63 59 .mv [t 62],
 y 64 63 .mv [t 5],
 y 65 63 (.faddr 1) [t 10],
 y 66 63 (.load 1 false) [t 65],
 y 67 63 (.bin .neq) [t 64, t 66],
 n 68 59 .pick [t 63, t 67, b false],
 o 69 .pick [t 59, b true, t 68]]
def c55_18 : EC := .rg c55_18l false
@[simp] theorem c55_18e : Rg c55_18 c55_18l false := rgE _ _
@[simp] def c55_19l : List EO := [o 2 .mv [i 0],
 o 3 .mv [b false]]
def c55_19 : EC := .rg c55_19l false
@[simp] theorem c55_19e : Rg c55_19 c55_19l false := rgE _ _
def c55_20 : EC := .sq c55_19 .rt
@[simp] theorem c55_20e : Sq c55_20 c55_19 .rt := sqE _ _
def c55_21 : EC := .cd (t 69) c55_20 .skip
@[simp] theorem c55_21e : Cd c55_21 (t 69) c55_20 .skip := cdE _ _ _
def c55_22 : EC := .sq c55_18 c55_21
@[simp] theorem c55_22e : Sq c55_22 c55_18 c55_21 := sqE _ _
@[simp] def c55_23l : List EO := [m 70 5,
 o 71 (.faddr 2) [t 10],
 o 72 (.load 1 false) [t 71],
 o 73 (.faddr 1) [t 10],
 o 74 (.load 1 false) [t 73],
 o 75 (.bin .sub) [t 72, t 74],
 o 76 (.bin .add) [t 70, t 75],
 m 5 76]
def c55_23 : EC := .rg c55_23l false
@[simp] theorem c55_23e : Rg c55_23 c55_23l false := rgE _ _
@[simp] def c55_24l : List EO := [m 77 4,
 m 78 5,
 o 79 (.mm true) [t 77, t 78],
 m 4 79]
def c55_24 : EC := .rg c55_24l false
@[simp] theorem c55_24e : Rg c55_24 c55_24l false := rgE _ _
@[simp] def c55_25l : List EO := [o 80 (.faddr 0) [t 9],
 o 81 (.load 1 false) [t 80],
 o 82 (.bin .eql) [t 81, i 23]]
def c55_25 : EC := .rg c55_25l false
@[simp] theorem c55_25e : Rg c55_25 c55_25l false := rgE _ _
@[simp] def c55_26l : List EO := [m 83 6,
 o 84 (.bin .add) [t 83, i 1],
 m 6 84]
def c55_26 : EC := .rg c55_26l false
@[simp] theorem c55_26e : Rg c55_26 c55_26l false := rgE _ _
def c55_27 : EC := .cd (t 82) c55_26 .skip
@[simp] theorem c55_27e : Cd c55_27 (t 82) c55_26 .skip := cdE _ _ _
def c55_28 : EC := .sq c55_25 c55_27
@[simp] theorem c55_28e : Sq c55_28 c55_25 c55_27 := sqE _ _
def c55_29 : EC := .sq c55_24 c55_28
@[simp] theorem c55_29e : Sq c55_29 c55_24 c55_28 := sqE _ _
def c55_30 : EC := .sq c55_23 c55_29
@[simp] theorem c55_30e : Sq c55_30 c55_23 c55_29 := sqE _ _
def c55_31 : EC := .sq c55_22 c55_30
@[simp] theorem c55_31e : Sq c55_31 c55_22 c55_30 := sqE _ _
def c55_32 : EC := .sq c55_17 c55_31
@[simp] theorem c55_32e : Sq c55_32 c55_17 c55_31 := sqE _ _
def c55_33 : EC := .sq c55_16 c55_32
@[simp] theorem c55_33e : Sq c55_33 c55_16 c55_32 := sqE _ _
def c55_34 : EC := .sq c55_11 c55_33
@[simp] theorem c55_34e : Sq c55_34 c55_11 c55_33 := sqE _ _
def c55_35 : EC := .bk 1 c55_34
@[simp] theorem c55_35e : Bk c55_35 1 c55_34 := bkE _ _
@[simp] def c55_36l : List EO := [o 85 (.bin .add) [t 19, i 1],
 m 19 85]
def c55_36 : EC := .rg c55_36l false
@[simp] theorem c55_36e : Rg c55_36 c55_36l false := rgE _ _
def c55_37 : EC := .sq c55_35 c55_36
@[simp] theorem c55_37e : Sq c55_37 c55_35 c55_36 := sqE _ _
def c55_38 : EC := .sq c55_10 c55_37
@[simp] theorem c55_38e : Sq c55_38 c55_10 c55_37 := sqE _ _
def c55_39 : EC := .sq c55_9 c55_38
@[simp] theorem c55_39e : Sq c55_39 c55_9 c55_38 := sqE _ _
def c55_40 : EC := .bk 0 (.lp c55_39)
@[simp] theorem c55_40e : Bk c55_40 0 (.lp c55_39) := bkE _ _
def c55_41 : EC := .sq c55_8 c55_40
@[simp] theorem c55_41e : Sq c55_41 c55_8 c55_40 := sqE _ _
@[simp] def c55_42l : List EO := [m 86 4,
 m 2 86,
 o 3 .mv [b true]]
def c55_42 : EC := .rg c55_42l false
@[simp] theorem c55_42e : Rg c55_42 c55_42l false := rgE _ _
def c55_43 : EC := .sq c55_42 .rt
@[simp] theorem c55_43e : Sq c55_43 c55_42 .rt := sqE _ _
def c55_44 : EC := .sq c55_41 c55_43
@[simp] theorem c55_44e : Sq c55_44 c55_41 c55_43 := sqE _ _
def c55_45 : EC := .sq c55_7 c55_44
@[simp] theorem c55_45e : Sq c55_45 c55_7 c55_44 := sqE _ _
def c55_46 : EC := .sq c55_6 c55_45
@[simp] theorem c55_46e : Sq c55_46 c55_6 c55_45 := sqE _ _
def c55_47 : EC := .sq c55_1 c55_46
@[simp] theorem c55_47e : Sq c55_47 c55_1 c55_46 := sqE _ _
def c55_48 : EC := .sq c55_0 c55_47
@[simp] theorem c55_48e : Sq c55_48 c55_0 c55_47 := sqE _ _
def c_compile_measure_55 : EC := c55_48
theorem k_55 : ecF Tryd.prog 55 = some (87, c_compile_measure_55, [.tm 2, .tm 3]) := by kernel_rfl

/-- tallystone/tallystoneref34.run -/
@[simp] def c56_0l : List EO := [o 1 .box [t 0],
 o 2 .mv [i 0],
 o 3 .mv [b false]]
def c56_0 : EC := .rg c56_0l false
@[simp] theorem c56_0e : Rg c56_0 c56_0l false := rgE _ _
@[simp] def c56_1l : List EO := [o 4 .mv [i 0],
 o 5 .mv [i 0],
 o 6 .mv [i 0]]
def c56_1 : EC := .rg c56_1l false
@[simp] theorem c56_1e : Rg c56_1 c56_1l false := rgE _ _
@[simp] def c56_2l : List EO := [o 7 .mv [i 0]]
def c56_2 : EC := .rg c56_2l false
@[simp] theorem c56_2e : Rg c56_2 c56_2l false := rgE _ _
@[simp] def c56_3l : List EO := [m 11 7,
 o 12 (.faddr 2) [t 1],
 o 13 (.load 1 false) [t 12],
 o 14 .lenL [t 13],
 o 15 (.bin .lss) [t 11, t 14]]
def c56_3 : EC := .rg c56_3l false
@[simp] theorem c56_3e : Rg c56_3 c56_3l false := rgE _ _
def c56_4 : EC := .cd (t 15) .skip (.ex 0)
@[simp] theorem c56_4e : Cd c56_4 (t 15) .skip (.ex 0) := cdE _ _ _
def c56_5 : EC := .sq c56_3 c56_4
@[simp] theorem c56_5e : Sq c56_5 c56_3 c56_4 := sqE _ _
@[simp] def c56_6l : List EO := [o 18 (.faddr 2) [t 1],
 o 19 (.load 1 false) [t 18],
 m 20 7,
 o 21 (.iaS 3) [t 19, t 20],
 o 22 (.load 3 true) [t 21],
 o 8 (.alloc [.t (.int .i64 0), .t (.int .i64 0), .t (.int .i64 0)]) [],
 u (.store 3) [t 8, t 22]]
def c56_6 : EC := .rg c56_6l false
@[simp] theorem c56_6e : Rg c56_6 c56_6l false := rgE _ _
@[simp] def c56_7l : List EO := [o 24 (.faddr 0) [t 8],
 o 25 (.load 1 false) [t 24],
 o 26 (.call 67) [t 25],
 m 23 26,
 o 27 (.ext 0) [t 23],
 o 28 (.ext 1) [t 23],
 m 9 27,
 m 10 28]
def c56_7 : EC := .rg c56_7l false
@[simp] theorem c56_7e : Rg c56_7 c56_7l false := rgE _ _
@[simp] def c56_8l : List EO := [o 29 (.faddr 0) [t 8],
 o 30 (.load 1 false) [t 29],
 o 31 (.bin .lss) [t 30, i 1],
 m 32 31,
 n 33 32 (.faddr 0) [t 8],
 n 34 32 (.load 1 false) [t 33],
 n 35 32 (.bin .gtr) [t 34, i 26],
 o 36 .pick [t 32, b true, t 35],
 m 37 36,
 n 38 37 (.faddr 0) [t 8],
 n 39 37 (.load 1 false) [t 38],
 n 40 37 (.call 65) [t 39],
 n 41 37 (.bin .lss) [t 40, i 2],
 n 42 37 .mv [t 41],
 y 43 42 (.faddr 2) [t 8],
 y 44 42 (.load 1 false) [t 43],
 y 45 42 (.bin .neq) [t 44, i 0],
 n 46 37 .pick [t 42, t 45, b false],
 o 47 .pick [t 37, b true, t 46],
 m 48 47,
 n 49 48 (.load 3 true) [t 8],
 n 50 48 .mv [t 6],
 n 51 48 (.faddr 1) [t 1],
 n 52 48 (.load 1 false) [t 51],
 n 53 48 (.call 93) [t 49, t 50, t 52],
 n 54 48 (.un .not) [t 53],
 o 55 .pick [t 48, b true, t 54],
 m 56 55,
 n 57 56 .mv [t 9],
 n 58 56 .mv [t 4],
 n 59 56 (.bin .gtr) [t 57, t 58],
 o 60 .pick [t 56, b true, t 59],
 m 61 60,
 n 62 61 (.faddr 0) [t 8],
 n 63 61 (.load 1 false) [t 62],
 n 64 61 (.bin .eql) [t 63, i 26],
 n 65 61 .mv [t 7],
 n 66 61 (.faddr 2) [t 1],
 n 67 61 (.load 1 false) [t 66],
 n 68 61 .lenL [t 67],
 n 69 61 (.bin .sub) [t 68, i 1],
 n 70 61 (.bin .eql) [t 65, t 69],
 n 71 61 (.eqv true false [0]) [t 64, t 70],
 o 72 .pick [t 61, b true, t 71]]
def c56_8 : EC := .rg c56_8l false
@[simp] theorem c56_8e : Rg c56_8 c56_8l false := rgE _ _
@[simp] def c56_9l : List EO := [o 2 .mv [i 0],
 o 3 .mv [b false]]
def c56_9 : EC := .rg c56_9l false
@[simp] theorem c56_9e : Rg c56_9 c56_9l false := rgE _ _
def c56_10 : EC := .sq c56_9 .rt
@[simp] theorem c56_10e : Sq c56_10 c56_9 .rt := sqE _ _
def c56_11 : EC := .cd (t 72) c56_10 .skip
@[simp] theorem c56_11e : Cd c56_11 (t 72) c56_10 .skip := cdE _ _ _
def c56_12 : EC := .sq c56_8 c56_11
@[simp] theorem c56_12e : Sq c56_12 c56_8 c56_11 := sqE _ _
@[simp] def c56_13l : List EO := [o 73 (.faddr 0) [t 8],
 o 74 (.load 1 false) [t 73],
 o 75 (.bin .geq) [t 74, i 23],
 m 76 75,
 y 77 76 .mv [t 4],
 y 78 76 .mv [t 9],
 y 79 76 (.bin .neq) [t 77, t 78],
 o 80 .pick [t 76, t 79, b false]]
def c56_13 : EC := .rg c56_13l false
@[simp] theorem c56_13e : Rg c56_13 c56_13l false := rgE _ _
@[simp] def c56_14l : List EO := [o 2 .mv [i 0],
 o 3 .mv [b false]]
def c56_14 : EC := .rg c56_14l false
@[simp] theorem c56_14e : Rg c56_14 c56_14l false := rgE _ _
def c56_15 : EC := .sq c56_14 .rt
@[simp] theorem c56_15e : Sq c56_15 c56_14 .rt := sqE _ _
def c56_16 : EC := .cd (t 80) c56_15 .skip
@[simp] theorem c56_16e : Cd c56_16 (t 80) c56_15 .skip := cdE _ _ _
def c56_17 : EC := .sq c56_13 c56_16
@[simp] theorem c56_17e : Sq c56_17 c56_13 c56_16 := sqE _ _
@[simp] def c56_18l : List EO := [o 81 (.faddr 0) [t 8],
 o 82 (.load 1 false) [t 81],
 o 83 (.bin .eql) [t 82, i 23]]
def c56_18 : EC := .rg c56_18l false
@[simp] theorem c56_18e : Rg c56_18 c56_18l false := rgE _ _
@[simp] def c56_19l : List EO := [m 84 6,
 o 85 (.bin .add) [t 84, i 1],
 m 6 85]
def c56_19 : EC := .rg c56_19l false
@[simp] theorem c56_19e : Rg c56_19 c56_19l false := rgE _ _
def c56_20 : EC := .cd (t 83) c56_19 .skip
@[simp] theorem c56_20e : Cd c56_20 (t 83) c56_19 .skip := cdE _ _ _
def c56_21 : EC := .sq c56_18 c56_20
@[simp] theorem c56_21e : Sq c56_21 c56_18 c56_20 := sqE _ _
@[simp] def c56_22l : List EO := [m 86 4,
 m 87 9,
 o 88 (.bin .sub) [t 86, t 87],
 m 89 10,
 o 90 (.bin .add) [t 88, t 89],
 m 4 90]
def c56_22 : EC := .rg c56_22l false
@[simp] theorem c56_22e : Rg c56_22 c56_22l false := rgE _ _
@[simp] def c56_23l : List EO := [m 91 5,
 m 92 4,
 o 93 (.mm true) [t 91, t 92],
 m 5 93]
def c56_23 : EC := .rg c56_23l false
@[simp] theorem c56_23e : Rg c56_23 c56_23l false := rgE _ _
def c56_24 : EC := .sq c56_22 c56_23
@[simp] theorem c56_24e : Sq c56_24 c56_22 c56_23 := sqE _ _
def c56_25 : EC := .sq c56_21 c56_24
@[simp] theorem c56_25e : Sq c56_25 c56_21 c56_24 := sqE _ _
def c56_26 : EC := .sq c56_17 c56_25
@[simp] theorem c56_26e : Sq c56_26 c56_17 c56_25 := sqE _ _
def c56_27 : EC := .sq c56_12 c56_26
@[simp] theorem c56_27e : Sq c56_27 c56_12 c56_26 := sqE _ _
def c56_28 : EC := .sq c56_7 c56_27
@[simp] theorem c56_28e : Sq c56_28 c56_7 c56_27 := sqE _ _
def c56_29 : EC := .sq c56_6 c56_28
@[simp] theorem c56_29e : Sq c56_29 c56_6 c56_28 := sqE _ _
def c56_30 : EC := .bk 1 c56_29
@[simp] theorem c56_30e : Bk c56_30 1 c56_29 := bkE _ _
@[simp] def c56_31l : List EO := [m 16 7,
 o 17 (.bin .add) [t 16, i 1],
 m 7 17]
def c56_31 : EC := .rg c56_31l false
@[simp] theorem c56_31e : Rg c56_31 c56_31l false := rgE _ _
def c56_32 : EC := .sq c56_30 c56_31
@[simp] theorem c56_32e : Sq c56_32 c56_30 c56_31 := sqE _ _
def c56_33 : EC := .sq c56_5 c56_32
@[simp] theorem c56_33e : Sq c56_33 c56_5 c56_32 := sqE _ _
def c56_34 : EC := .bk 0 (.lp c56_33)
@[simp] theorem c56_34e : Bk c56_34 0 (.lp c56_33) := bkE _ _
def c56_35 : EC := .sq c56_2 c56_34
@[simp] theorem c56_35e : Sq c56_35 c56_2 c56_34 := sqE _ _
@[simp] def c56_36l : List EO := [m 94 5,
 o 95 (.faddr 2) [t 1],
 o 96 (.load 1 false) [t 95],
 o 97 .lenL [t 96],
 o 98 (.bin .gtr) [t 97, i 0],
 m 2 94,
 m 3 98]
def c56_36 : EC := .rg c56_36l true
@[simp] theorem c56_36e : Rg c56_36 c56_36l true := rgE _ _
def c56_37 : EC := .sq c56_36 .rt
@[simp] theorem c56_37e : Sq c56_37 c56_36 .rt := sqE _ _
def c56_38 : EC := .sq c56_35 c56_37
@[simp] theorem c56_38e : Sq c56_38 c56_35 c56_37 := sqE _ _
def c56_39 : EC := .sq c56_1 c56_38
@[simp] theorem c56_39e : Sq c56_39 c56_1 c56_38 := sqE _ _
def c56_40 : EC := .sq c56_0 c56_39
@[simp] theorem c56_40e : Sq c56_40 c56_0 c56_39 := sqE _ _
def c_tallystoneref34_run_56 : EC := c56_40
theorem k_56 : ecF Tryd.prog 56 = some (99, c_tallystoneref34_run_56, [.tm 2, .tm 3]) := by kernel_rfl

/-- tallystone/compile.operations -/
@[simp] def c57_0l : List EO := [o 0 (.alloc [.t (.str []), .t (.int .i64 0), .t (.int .i64 0), .t (.int .i64 0), .t (.str []), .t (.int .i64 0), .t (.int .i64 0), .t (.int .i64 0), .t (.str []), .t (.int .i64 0), .t (.int .i64 0), .t (.int .i64 0), .t (.str []), .t (.int .i64 0), .t (.int .i64 0), .t (.int .i64 0), .t (.str []), .t (.int .i64 0), .t (.int .i64 0), .t (.int .i64 0), .t (.str []), .t (.int .i64 0), .t (.int .i64 0), .t (.int .i64 0), .t (.str []), .t (.int .i64 0), .t (.int .i64 0), .t (.int .i64 0), .t (.str []), .t (.int .i64 0), .t (.int .i64 0), .t (.int .i64 0), .t (.str []), .t (.int .i64 0), .t (.int .i64 0), .t (.int .i64 0), .t (.str []), .t (.int .i64 0), .t (.int .i64 0), .t (.int .i64 0), .t (.str []), .t (.int .i64 0), .t (.int .i64 0), .t (.int .i64 0), .t (.str []), .t (.int .i64 0), .t (.int .i64 0), .t (.int .i64 0), .t (.str []), .t (.int .i64 0), .t (.int .i64 0), .t (.int .i64 0), .t (.str []), .t (.int .i64 0), .t (.int .i64 0), .t (.int .i64 0), .t (.str []), .t (.int .i64 0), .t (.int .i64 0), .t (.int .i64 0), .t (.str []), .t (.int .i64 0), .t (.int .i64 0), .t (.int .i64 0), .t (.str []), .t (.int .i64 0), .t (.int .i64 0), .t (.int .i64 0), .t (.str []), .t (.int .i64 0), .t (.int .i64 0), .t (.int .i64 0), .t (.str []), .t (.int .i64 0), .t (.int .i64 0), .t (.int .i64 0), .t (.str []), .t (.int .i64 0), .t (.int .i64 0), .t (.int .i64 0), .t (.str []), .t (.int .i64 0), .t (.int .i64 0), .t (.int .i64 0), .t (.str []), .t (.int .i64 0), .t (.int .i64 0), .t (.int .i64 0), .t (.str []), .t (.int .i64 0), .t (.int .i64 0), .t (.int .i64 0), .t (.str []), .t (.int .i64 0), .t (.int .i64 0), .t (.int .i64 0), .t (.str []), .t (.int .i64 0), .t (.int .i64 0), .t (.int .i64 0), .t (.str []), .t (.int .i64 0), .t (.int .i64 0), .t (.int .i64 0), .t (.str []), .t (.int .i64 0), .t (.int .i64 0), .t (.int .i64 0)]) []]
def c57_0 : EC := .rg c57_0l false
@[simp] theorem c57_0e : Rg c57_0 c57_0l false := rgE _ _
@[simp] def c57_1l : List EO := [o 1 (.build [.t (.str []), .t (.int .i64 0), .t (.int .i64 0), .t (.int .i64 0)] [(0, 1), (1, 1), (2, 1), (3, 1)]) [c (.t (.str [112, 117, 115, 104])), i 0, i 1, i 1],
 o 2 (.build [.t (.str []), .t (.int .i64 0), .t (.int .i64 0), .t (.int .i64 0)] [(0, 1), (1, 1), (2, 1), (3, 1)]) [c (.t (.str [108, 111, 97, 100])), i 0, i 1, i 1],
 o 3 (.build [.t (.str []), .t (.int .i64 0), .t (.int .i64 0), .t (.int .i64 0)] [(0, 1), (1, 1), (2, 1), (3, 1)]) [c (.t (.str [98, 97, 108, 97, 110, 99, 101])), i 0, i 1, i 2],
 o 4 (.build [.t (.str []), .t (.int .i64 0), .t (.int .i64 0), .t (.int .i64 0)] [(0, 1), (1, 1), (2, 1), (3, 1)]) [c (.t (.str [112, 97, 114, 116, 110, 101, 114])), i 0, i 1, i 2],
 o 5 (.build [.t (.str []), .t (.int .i64 0), .t (.int .i64 0), .t (.int .i64 0)] [(0, 1), (1, 1), (2, 1), (3, 1)]) [c (.t (.str [110, 101, 103])), i 1, i 1, i 0],
 o 6 (.build [.t (.str []), .t (.int .i64 0), .t (.int .i64 0), .t (.int .i64 0)] [(0, 1), (1, 1), (2, 1), (3, 1)]) [c (.t (.str [97, 98, 115])), i 1, i 1, i 0],
 o 7 (.build [.t (.str []), .t (.int .i64 0), .t (.int .i64 0), .t (.int .i64 0)] [(0, 1), (1, 1), (2, 1), (3, 1)]) [c (.t (.str [115, 104, 97, 114, 101])), i 1, i 1, i 0],
 o 8 (.build [.t (.str []), .t (.int .i64 0), .t (.int .i64 0), .t (.int .i64 0)] [(0, 1), (1, 1), (2, 1), (3, 1)]) [c (.t (.str [110, 111, 116])), i 1, i 1, i 0],
 o 9 (.build [.t (.str []), .t (.int .i64 0), .t (.int .i64 0), .t (.int .i64 0)] [(0, 1), (1, 1), (2, 1), (3, 1)]) [c (.t (.str [112, 101, 114])), i 1, i 1, i 1],
 o 10 (.build [.t (.str []), .t (.int .i64 0), .t (.int .i64 0), .t (.int .i64 0)] [(0, 1), (1, 1), (2, 1), (3, 1)]) [c (.t (.str [97, 100, 100])), i 2, i 1, i 0],
 o 11 (.build [.t (.str []), .t (.int .i64 0), .t (.int .i64 0), .t (.int .i64 0)] [(0, 1), (1, 1), (2, 1), (3, 1)]) [c (.t (.str [115, 117, 98])), i 2, i 1, i 0],
 o 12 (.build [.t (.str []), .t (.int .i64 0), .t (.int .i64 0), .t (.int .i64 0)] [(0, 1), (1, 1), (2, 1), (3, 1)]) [c (.t (.str [109, 117, 108])), i 2, i 1, i 0],
 o 13 (.build [.t (.str []), .t (.int .i64 0), .t (.int .i64 0), .t (.int .i64 0)] [(0, 1), (1, 1), (2, 1), (3, 1)]) [c (.t (.str [109, 105, 110])), i 2, i 1, i 0],
 o 14 (.build [.t (.str []), .t (.int .i64 0), .t (.int .i64 0), .t (.int .i64 0)] [(0, 1), (1, 1), (2, 1), (3, 1)]) [c (.t (.str [109, 97, 120])), i 2, i 1, i 0],
 o 15 (.build [.t (.str []), .t (.int .i64 0), .t (.int .i64 0), .t (.int .i64 0)] [(0, 1), (1, 1), (2, 1), (3, 1)]) [c (.t (.str [97, 110, 100])), i 2, i 1, i 0],
 o 16 (.build [.t (.str []), .t (.int .i64 0), .t (.int .i64 0), .t (.int .i64 0)] [(0, 1), (1, 1), (2, 1), (3, 1)]) [c (.t (.str [111, 114])), i 2, i 1, i 0],
 o 17 (.build [.t (.str []), .t (.int .i64 0), .t (.int .i64 0), .t (.int .i64 0)] [(0, 1), (1, 1), (2, 1), (3, 1)]) [c (.t (.str [108, 101, 115, 115])), i 2, i 1, i 0],
 o 18 (.build [.t (.str []), .t (.int .i64 0), .t (.int .i64 0), .t (.int .i64 0)] [(0, 1), (1, 1), (2, 1), (3, 1)]) [c (.t (.str [108, 101, 115, 115, 101, 113, 117, 97, 108])), i 2, i 1, i 0],
 o 19 (.build [.t (.str []), .t (.int .i64 0), .t (.int .i64 0), .t (.int .i64 0)] [(0, 1), (1, 1), (2, 1), (3, 1)]) [c (.t (.str [101, 113, 117, 97, 108])), i 2, i 1, i 0],
 o 20 (.build [.t (.str []), .t (.int .i64 0), .t (.int .i64 0), .t (.int .i64 0)] [(0, 1), (1, 1), (2, 1), (3, 1)]) [c (.t (.str [110, 111, 116, 101, 113, 117, 97, 108])), i 2, i 1, i 0],
 o 21 (.build [.t (.str []), .t (.int .i64 0), .t (.int .i64 0), .t (.int .i64 0)] [(0, 1), (1, 1), (2, 1), (3, 1)]) [c (.t (.str [103, 114, 101, 97, 116, 101, 114, 101, 113, 117, 97, 108])), i 2, i 1, i 0],
 o 22 (.build [.t (.str []), .t (.int .i64 0), .t (.int .i64 0), .t (.int .i64 0)] [(0, 1), (1, 1), (2, 1), (3, 1)]) [c (.t (.str [103, 114, 101, 97, 116, 101, 114])), i 2, i 1, i 0],
 o 23 (.build [.t (.str []), .t (.int .i64 0), .t (.int .i64 0), .t (.int .i64 0)] [(0, 1), (1, 1), (2, 1), (3, 1)]) [c (.t (.str [115, 116, 111, 114, 101])), i 1, i 0, i 1],
 o 24 (.build [.t (.str []), .t (.int .i64 0), .t (.int .i64 0), .t (.int .i64 0)] [(0, 1), (1, 1), (2, 1), (3, 1)]) [c (.t (.str [114, 101, 113, 117, 105, 114, 101])), i 1, i 0, i 0],
 o 25 (.build [.t (.str []), .t (.int .i64 0), .t (.int .i64 0), .t (.int .i64 0)] [(0, 1), (1, 1), (2, 1), (3, 1)]) [c (.t (.str [112, 111, 115, 116])), i 1, i 0, i 1],
 o 26 (.build [.t (.str []), .t (.int .i64 0), .t (.int .i64 0), .t (.int .i64 0)] [(0, 1), (1, 1), (2, 1), (3, 1)]) [c (.t (.str [116, 111])), i 0, i 0, i 1],
 o 27 (.build [.t (.str []), .t (.int .i64 0), .t (.int .i64 0), .t (.int .i64 0), .t (.str []), .t (.int .i64 0), .t (.int .i64 0), .t (.int .i64 0), .t (.str []), .t (.int .i64 0), .t (.int .i64 0), .t (.int .i64 0), .t (.str []), .t (.int .i64 0), .t (.int .i64 0), .t (.int .i64 0), .t (.str []), .t (.int .i64 0), .t (.int .i64 0), .t (.int .i64 0), .t (.str []), .t (.int .i64 0), .t (.int .i64 0), .t (.int .i64 0), .t (.str []), .t (.int .i64 0), .t (.int .i64 0), .t (.int .i64 0), .t (.str []), .t (.int .i64 0), .t (.int .i64 0), .t (.int .i64 0), .t (.str []), .t (.int .i64 0), .t (.int .i64 0), .t (.int .i64 0), .t (.str []), .t (.int .i64 0), .t (.int .i64 0), .t (.int .i64 0), .t (.str []), .t (.int .i64 0), .t (.int .i64 0), .t (.int .i64 0), .t (.str []), .t (.int .i64 0), .t (.int .i64 0), .t (.int .i64 0), .t (.str []), .t (.int .i64 0), .t (.int .i64 0), .t (.int .i64 0), .t (.str []), .t (.int .i64 0), .t (.int .i64 0), .t (.int .i64 0), .t (.str []), .t (.int .i64 0), .t (.int .i64 0), .t (.int .i64 0), .t (.str []), .t (.int .i64 0), .t (.int .i64 0), .t (.int .i64 0), .t (.str []), .t (.int .i64 0), .t (.int .i64 0), .t (.int .i64 0), .t (.str []), .t (.int .i64 0), .t (.int .i64 0), .t (.int .i64 0), .t (.str []), .t (.int .i64 0), .t (.int .i64 0), .t (.int .i64 0), .t (.str []), .t (.int .i64 0), .t (.int .i64 0), .t (.int .i64 0), .t (.str []), .t (.int .i64 0), .t (.int .i64 0), .t (.int .i64 0), .t (.str []), .t (.int .i64 0), .t (.int .i64 0), .t (.int .i64 0), .t (.str []), .t (.int .i64 0), .t (.int .i64 0), .t (.int .i64 0), .t (.str []), .t (.int .i64 0), .t (.int .i64 0), .t (.int .i64 0), .t (.str []), .t (.int .i64 0), .t (.int .i64 0), .t (.int .i64 0), .t (.str []), .t (.int .i64 0), .t (.int .i64 0), .t (.int .i64 0), .t (.str []), .t (.int .i64 0), .t (.int .i64 0), .t (.int .i64 0)] [(4, 4), (8, 4), (12, 4), (16, 4), (20, 4), (24, 4), (28, 4), (32, 4), (36, 4), (40, 4), (44, 4), (48, 4), (52, 4), (56, 4), (60, 4), (64, 4), (68, 4), (72, 4), (76, 4), (80, 4), (84, 4), (88, 4), (92, 4), (96, 4), (100, 4), (104, 4)]) [t 1, t 2, t 3, t 4, t 5, t 6, t 7, t 8, t 9, t 10, t 11, t 12, t 13, t 14, t 15, t 16, t 17, t 18, t 19, t 20, t 21, t 22, t 23, t 24, t 25, t 26],
 u (.store 108) [t 0, t 27]]
def c57_1 : EC := .rg c57_1l false
@[simp] theorem c57_1e : Rg c57_1 c57_1l false := rgE _ _
def c57_2 : EC := .sq c57_1 .rt
@[simp] theorem c57_2e : Sq c57_2 c57_1 .rt := sqE _ _
def c57_3 : EC := .sq c57_0 c57_2
@[simp] theorem c57_3e : Sq c57_3 c57_0 c57_2 := sqE _ _
def c_compile_operations_57 : EC := c57_3
theorem k_57 : ecF Tryd.prog 57 = some (28, c_compile_operations_57, [.ce 0 108 true]) := by kernel_rfl

/-- slices.ContainsFunc[[]tallystone/compile.Ins,tallystone/compile.Ins] -/
@[simp] def c58_0l : List EO := [o 4 .mv [b false]]
def c58_0 : EC := .rg c58_0l false
@[simp] theorem c58_0e : Rg c58_0 c58_0l false := rgE _ _
@[simp] def c58_1l : List EO := [m 5 0,
 m 6 1,
 o 7 (.call 94) [t 5, t 6],
 o 8 (.bin .geq) [t 7, i 0],
 m 4 8]
def c58_1 : EC := .rg c58_1l false
@[simp] theorem c58_1e : Rg c58_1 c58_1l false := rgE _ _
def c58_2 : EC := .sq c58_1 .rt
@[simp] theorem c58_2e : Sq c58_2 c58_1 .rt := sqE _ _
def c58_3 : EC := .sq c58_0 c58_2
@[simp] theorem c58_3e : Sq c58_3 c58_0 c58_2 := sqE _ _
def c_compile_Ins__58 : EC := c58_3
theorem k_58 : ecF Tryd.prog 58 = some (9, c_compile_Ins__58, [.tm 4]) := by kernel_rfl

/-- tallystone/compile.Fold$1 -/
@[simp] def c59_0l : List EO := [o 1 .box [t 0],
 o 2 .mv [b false]]
def c59_0 : EC := .rg c59_0l false
@[simp] theorem c59_0e : Rg c59_0 c59_0l false := rgE _ _
@[simp] def c59_1l : List EO := [o 3 (.faddr 0) [t 1],
 o 4 (.load 1 false) [t 3],
 o 5 (.bin .neq) [t 4, i 1],
 m 2 5]
def c59_1 : EC := .rg c59_1l false
@[simp] theorem c59_1e : Rg c59_1 c59_1l false := rgE _ _
def c59_2 : EC := .sq c59_1 .rt
@[simp] theorem c59_2e : Sq c59_2 c59_1 .rt := sqE _ _
def c59_3 : EC := .sq c59_0 c59_2
@[simp] theorem c59_3e : Sq c59_3 c59_0 c59_2 := sqE _ _
def c_compile_FoldS1_59 : EC := c59_3
theorem k_59 : ecF Tryd.prog 59 = some (6, c_compile_FoldS1_59, [.tm 2]) := by kernel_rfl

/-- (*strings.Builder).WriteString -/
@[simp] def c60_0l : List EO := [o 4 .mv [i 0],
 o 5 .mv [c (.t (.nili))]]
def c60_0 : EC := .rg c60_0l false
@[simp] theorem c60_0e : Rg c60_0 c60_0l false := rgE _ _
@[simp] def c60_1l : List EO := [m 6 0,
 o 7 (.call 95) [t 6]]
def c60_1 : EC := .rg c60_1l false
@[simp] theorem c60_1e : Rg c60_1 c60_1l false := rgE _ _
@[simp] def c60_2l : List EO := [m 8 0,
 m 9 0,
 o 10 .nilc [t 9],
 o 11 (.faddr 1) [t 10],
 o 12 (.load 1 false) [t 11],
 m 13 1,
 o 14 (.appS 5) [t 12, t 13],
 o 15 .nilc [t 8],
 o 16 (.faddr 1) [t 15],
 u (.store 1) [t 16, t 14]]
def c60_2 : EC := .rg c60_2l false
@[simp] theorem c60_2e : Rg c60_2 c60_2l false := rgE _ _
@[simp] def c60_3l : List EO := [m 17 1,
 o 18 .lenS [t 17],
 m 4 18,
 o 5 .mv [c (.t (.nili))]]
def c60_3 : EC := .rg c60_3l false
@[simp] theorem c60_3e : Rg c60_3 c60_3l false := rgE _ _
def c60_4 : EC := .sq c60_3 .rt
@[simp] theorem c60_4e : Sq c60_4 c60_3 .rt := sqE _ _
def c60_5 : EC := .sq c60_2 c60_4
@[simp] theorem c60_5e : Sq c60_5 c60_2 c60_4 := sqE _ _
def c60_6 : EC := .sq c60_1 c60_5
@[simp] theorem c60_6e : Sq c60_6 c60_1 c60_5 := sqE _ _
def c60_7 : EC := .sq c60_0 c60_6
@[simp] theorem c60_7e : Sq c60_7 c60_0 c60_6 := sqE _ _
def c___strings_Builder__WriteString_60 : EC := c60_7
theorem k_60 : ecF Tryd.prog 60 = some (19, c___strings_Builder__WriteString_60, [.tm 4, .tm 5]) := by kernel_rfl

/-- (*strings.Builder).WriteByte -/
@[simp] def c62_0l : List EO := [o 4 .mv [c (.t (.nili))]]
def c62_0 : EC := .rg c62_0l false
@[simp] theorem c62_0e : Rg c62_0 c62_0l false := rgE _ _
@[simp] def c62_1l : List EO := [m 5 0,
 o 6 (.call 95) [t 5]]
def c62_1 : EC := .rg c62_1l false
@[simp] theorem c62_1e : Rg c62_1 c62_1l false := rgE _ _
@[simp] def c62_2l : List EO := [m 7 0,
 m 8 0,
 o 9 .nilc [t 8],
 o 10 (.faddr 1) [t 9],
 o 11 (.load 1 false) [t 10],
 m 12 1,
 o 13 (.bsl 1) [t 12],
 o 14 (.app 5 1 1) [t 11, t 13],
 o 15 .nilc [t 7],
 o 16 (.faddr 1) [t 15],
 u (.store 1) [t 16, t 14]]
def c62_2 : EC := .rg c62_2l false
@[simp] theorem c62_2e : Rg c62_2 c62_2l false := rgE _ _
@[simp] def c62_3l : List EO := [o 4 .mv [c (.t (.nili))]]
def c62_3 : EC := .rg c62_3l false
@[simp] theorem c62_3e : Rg c62_3 c62_3l false := rgE _ _
def c62_4 : EC := .sq c62_3 .rt
@[simp] theorem c62_4e : Sq c62_4 c62_3 .rt := sqE _ _
def c62_5 : EC := .sq c62_2 c62_4
@[simp] theorem c62_5e : Sq c62_5 c62_2 c62_4 := sqE _ _
def c62_6 : EC := .sq c62_1 c62_5
@[simp] theorem c62_6e : Sq c62_6 c62_1 c62_5 := sqE _ _
def c62_7 : EC := .sq c62_0 c62_6
@[simp] theorem c62_7e : Sq c62_7 c62_0 c62_6 := sqE _ _
def c___strings_Builder__WriteByte_62 : EC := c62_7
theorem k_62 : ecF Tryd.prog 62 = some (17, c___strings_Builder__WriteByte_62, [.tm 4]) := by kernel_rfl

/-- slices.Equal[[]tallystone/compile.Ins,tallystone/compile.Ins] -/
@[simp] def c64_0l : List EO := [o 4 .mv [b false]]
def c64_0 : EC := .rg c64_0l false
@[simp] theorem c64_0e : Rg c64_0 c64_0l false := rgE _ _
@[simp] def c64_1l : List EO := [m 6 0,
 o 7 .lenL [t 6],
 m 8 1,
 o 9 .lenL [t 8],
 o 10 (.bin .neq) [t 7, t 9]]
def c64_1 : EC := .rg c64_1l false
@[simp] theorem c64_1e : Rg c64_1 c64_1l false := rgE _ _
@[simp] def c64_2l : List EO := [o 4 .mv [b false]]
def c64_2 : EC := .rg c64_2l false
@[simp] theorem c64_2e : Rg c64_2 c64_2l false := rgE _ _
def c64_3 : EC := .sq c64_2 .rt
@[simp] theorem c64_3e : Sq c64_3 c64_2 .rt := sqE _ _
def c64_4 : EC := .cd (t 10) c64_3 .skip
@[simp] theorem c64_4e : Cd c64_4 (t 10) c64_3 .skip := cdE _ _ _
def c64_5 : EC := .sq c64_1 c64_4
@[simp] theorem c64_5e : Sq c64_5 c64_1 c64_4 := sqE _ _
@[simp] def c64_6l : List EO := [m 11 0,
 o 12 .lenL [t 11],
 o 13 .mv [i 0]]
def c64_6 : EC := .rg c64_6l false
@[simp] theorem c64_6e : Rg c64_6 c64_6l false := rgE _ _
@[simp] def c64_7l : List EO := [o 14 (.bin .lss) [t 13, t 12]]
def c64_7 : EC := .rg c64_7l false
@[simp] theorem c64_7e : Rg c64_7 c64_7l false := rgE _ _
def c64_8 : EC := .cd (t 14) .skip (.ex 0)
@[simp] theorem c64_8e : Cd c64_8 (t 14) .skip (.ex 0) := cdE _ _ _
@[simp] def c64_9l : List EO := [m 15 13,
 m 5 15]
def c64_9 : EC := .rg c64_9l false
@[simp] theorem c64_9e : Rg c64_9 c64_9l false := rgE _ _
@[simp] def c64_10l : List EO := [m 16 0,
 m 17 5,
 o 18 (.iaS 3) [t 16, t 17],
 o 19 (.load 3 true) [t 18],
 m 20 1,
 m 21 5,
 o 22 (.iaS 3) [t 20, t 21],
 o 23 (.load 3 true) [t 22],
 o 24 (.eqv true true [1, 1, 1]) [t 19, t 23]]
def c64_10 : EC := .rg c64_10l true
@[simp] theorem c64_10e : Rg c64_10 c64_10l true := rgE _ _
@[simp] def c64_11l : List EO := [o 4 .mv [b false]]
def c64_11 : EC := .rg c64_11l false
@[simp] theorem c64_11e : Rg c64_11 c64_11l false := rgE _ _
def c64_12 : EC := .sq c64_11 .rt
@[simp] theorem c64_12e : Sq c64_12 c64_11 .rt := sqE _ _
def c64_13 : EC := .cd (t 24) c64_12 .skip
@[simp] theorem c64_13e : Cd c64_13 (t 24) c64_12 .skip := cdE _ _ _
def c64_14 : EC := .sq c64_10 c64_13
@[simp] theorem c64_14e : Sq c64_14 c64_10 c64_13 := sqE _ _
def c64_15 : EC := .sq c64_9 c64_14
@[simp] theorem c64_15e : Sq c64_15 c64_9 c64_14 := sqE _ _
def c64_16 : EC := .bk 1 c64_15
@[simp] theorem c64_16e : Bk c64_16 1 c64_15 := bkE _ _
@[simp] def c64_17l : List EO := [o 25 (.bin .add) [t 13, i 1],
 m 13 25]
def c64_17 : EC := .rg c64_17l false
@[simp] theorem c64_17e : Rg c64_17 c64_17l false := rgE _ _
def c64_18 : EC := .sq c64_16 c64_17
@[simp] theorem c64_18e : Sq c64_18 c64_16 c64_17 := sqE _ _
def c64_19 : EC := .sq c64_8 c64_18
@[simp] theorem c64_19e : Sq c64_19 c64_8 c64_18 := sqE _ _
def c64_20 : EC := .sq c64_7 c64_19
@[simp] theorem c64_20e : Sq c64_20 c64_7 c64_19 := sqE _ _
def c64_21 : EC := .bk 0 (.lp c64_20)
@[simp] theorem c64_21e : Bk c64_21 0 (.lp c64_20) := bkE _ _
def c64_22 : EC := .sq c64_6 c64_21
@[simp] theorem c64_22e : Sq c64_22 c64_6 c64_21 := sqE _ _
@[simp] def c64_23l : List EO := [o 4 .mv [b true]]
def c64_23 : EC := .rg c64_23l false
@[simp] theorem c64_23e : Rg c64_23 c64_23l false := rgE _ _
def c64_24 : EC := .sq c64_23 .rt
@[simp] theorem c64_24e : Sq c64_24 c64_23 .rt := sqE _ _
def c64_25 : EC := .sq c64_22 c64_24
@[simp] theorem c64_25e : Sq c64_25 c64_22 c64_24 := sqE _ _
def c64_26 : EC := .sq c64_5 c64_25
@[simp] theorem c64_26e : Sq c64_26 c64_5 c64_25 := sqE _ _
def c64_27 : EC := .sq c64_0 c64_26
@[simp] theorem c64_27e : Sq c64_27 c64_0 c64_26 := sqE _ _
def c_compile_Ins__64 : EC := c64_27
theorem k_64 : ecF Tryd.prog 64 = some (26, c_compile_Ins__64, [.tm 4]) := by kernel_rfl
end Go.Proofs.YtkapabohpfkcoaaDoor
