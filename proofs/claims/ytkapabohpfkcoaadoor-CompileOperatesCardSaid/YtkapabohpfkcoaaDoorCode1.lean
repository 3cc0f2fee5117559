/- The code of the functions of this seat, as the engine reads it; printed by program out of the translation, checked by the kernel. -/
import Derived.Test.YtkapabohpfkcoaaDoorEd
import Derived.Test.YtkapabohpfkcoaaDoorProg
set_option linter.unusedSimpArgs false
set_option linter.unusedVariables false
namespace Go.Proofs.YtkapabohpfkcoaaDoor
open Go.Proofs E E.Z
variable {P : Program} {nb nt : Nat} {Q : Ex → Fr → St → Prop} {a : Fr} {S : St}
/-- tallystone/tallystoneref34.Operate -/
@[simp] def c14_0l : List EO := [o 8 .mv [i 0],
 o 9 .mv [b false]]
def c14_0 : EC := .rg c14_0l false
@[simp] theorem c14_0e : Rg c14_0 c14_0l false := rgE _ _
@[simp] def c14_1l : List EO := [m 11 2,
 o 12 (.call 15) [t 11],
 o 13 (.un .not) [t 12],
 m 14 13,
 n 15 14 .mv [t 3],
 n 16 14 (.call 15) [t 15],
 n 17 14 (.un .not) [t 16],
 o 18 .pick [t 14, b true, t 17]]
def c14_1 : EC := .rg c14_1l false
@[simp] theorem c14_1e : Rg c14_1 c14_1l false := rgE _ _
@[simp] def c14_2l : List EO := [o 8 .mv [i 0],
 o 9 .mv [b false]]
def c14_2 : EC := .rg c14_2l false
@[simp] theorem c14_2e : Rg c14_2 c14_2l false := rgE _ _
def c14_3 : EC := .sq c14_2 .rt
@[simp] theorem c14_3e : Sq c14_3 c14_2 .rt := sqE _ _
def c14_4 : EC := .cd (t 18) c14_3 .skip
@[simp] theorem c14_4e : Cd c14_4 (t 18) c14_3 .skip := cdE _ _ _
def c14_5 : EC := .sq c14_1 c14_4
@[simp] theorem c14_5e : Sq c14_5 c14_1 c14_4 := sqE _ _
@[simp] def c14_6l : List EO := [o 10 .mv [i 0]]
def c14_6 : EC := .rg c14_6l false
@[simp] theorem c14_6e : Rg c14_6 c14_6l false := rgE _ _
@[simp] def c14_7l : List EO := [m 19 0]
def c14_7 : EC := .rg c14_7l false
@[simp] theorem c14_7e : Rg c14_7 c14_7l false := rgE _ _
@[simp] def c14_8l : List EO := [o 21 (.bin .eql) [t 19, i 5],
 m 20 21]
def c14_8 : EC := .rg c14_8l false
@[simp] theorem c14_8e : Rg c14_8 c14_8l false := rgE _ _
@[simp] def c14_9l : List EO := [m 22 2,
 o 23 (.un .neg) [t 22],
 m 10 23]
def c14_9 : EC := .rg c14_9l false
@[simp] theorem c14_9e : Rg c14_9 c14_9l false := rgE _ _
@[simp] def c14_10l : List EO := [o 25 (.bin .eql) [t 19, i 6],
 m 24 25]
def c14_10 : EC := .rg c14_10l false
@[simp] theorem c14_10e : Rg c14_10 c14_10l false := rgE _ _
@[simp] def c14_11l : List EO := [m 26 2,
 m 27 2,
 o 28 (.un .neg) [t 27],
 o 29 (.mm true) [t 26, t 28],
 m 10 29]
def c14_11 : EC := .rg c14_11l false
@[simp] theorem c14_11e : Rg c14_11 c14_11l false := rgE _ _
@[simp] def c14_12l : List EO := [o 31 (.bin .eql) [t 19, i 8],
 m 30 31]
def c14_12 : EC := .rg c14_12l false
@[simp] theorem c14_12e : Rg c14_12 c14_12l false := rgE _ _
@[simp] def c14_13l : List EO := [m 32 2,
 o 33 (.bin .eql) [t 32, i 0],
 o 34 (.call 48) [t 33],
 m 10 34]
def c14_13 : EC := .rg c14_13l false
@[simp] theorem c14_13e : Rg c14_13 c14_13l false := rgE _ _
@[simp] def c14_14l : List EO := [o 36 (.bin .eql) [t 19, i 9],
 m 35 36]
def c14_14 : EC := .rg c14_14l false
@[simp] theorem c14_14e : Rg c14_14 c14_14l false := rgE _ _
@[simp] def c14_15l : List EO := [m 37 1,
 o 38 (.bin .lss) [t 37, i 1],
 m 39 38,
 n 40 39 .mv [t 1],
 n 41 39 (.bin .gtr) [t 40, i 1000000000000],
 o 42 .pick [t 39, b true, t 41]]
def c14_15 : EC := .rg c14_15l false
@[simp] theorem c14_15e : Rg c14_15 c14_15l false := rgE _ _
@[simp] def c14_16l : List EO := [o 8 .mv [i 0],
 o 9 .mv [b false]]
def c14_16 : EC := .rg c14_16l false
@[simp] theorem c14_16e : Rg c14_16 c14_16l false := rgE _ _
def c14_17 : EC := .sq c14_16 .rt
@[simp] theorem c14_17e : Sq c14_17 c14_16 .rt := sqE _ _
def c14_18 : EC := .cd (t 42) c14_17 .skip
@[simp] theorem c14_18e : Cd c14_18 (t 42) c14_17 .skip := cdE _ _ _
def c14_19 : EC := .sq c14_15 c14_18
@[simp] theorem c14_19e : Sq c14_19 c14_15 c14_18 := sqE _ _
@[simp] def c14_20l : List EO := [m 43 2,
 m 44 2,
 o 45 (.un .neg) [t 44],
 o 46 (.mm true) [t 43, t 45],
 o 47 (.bin .mul) [i 2, t 46],
 m 48 1,
 o 49 (.bin .add) [t 47, t 48],
 m 50 1,
 o 51 (.bin .mul) [i 2, t 50],
 o 52 (.bin .quo) [t 49, t 51],
 m 10 52]
def c14_20 : EC := .rg c14_20l false
@[simp] theorem c14_20e : Rg c14_20 c14_20l false := rgE _ _
@[simp] def c14_21l : List EO := [m 53 2,
 o 54 (.bin .lss) [t 53, i 0]]
def c14_21 : EC := .rg c14_21l false
@[simp] theorem c14_21e : Rg c14_21 c14_21l false := rgE _ _
@[simp] def c14_22l : List EO := [m 55 10,
 o 56 (.un .neg) [t 55],
 m 10 56]
def c14_22 : EC := .rg c14_22l false
@[simp] theorem c14_22e : Rg c14_22 c14_22l false := rgE _ _
def c14_23 : EC := .cd (t 54) c14_22 .skip
@[simp] theorem c14_23e : Cd c14_23 (t 54) c14_22 .skip := cdE _ _ _
def c14_24 : EC := .sq c14_21 c14_23
@[simp] theorem c14_24e : Sq c14_24 c14_21 c14_23 := sqE _ _
def c14_25 : EC := .sq c14_20 c14_24
@[simp] theorem c14_25e : Sq c14_25 c14_20 c14_24 := sqE _ _
def c14_26 : EC := .sq c14_19 c14_25
@[simp] theorem c14_26e : Sq c14_26 c14_19 c14_25 := sqE _ _
@[simp] def c14_27l : List EO := [o 58 (.bin .eql) [t 19, i 10],
 m 57 58]
def c14_27 : EC := .rg c14_27l false
@[simp] theorem c14_27e : Rg c14_27 c14_27l false := rgE _ _
@[simp] def c14_28l : List EO := [m 59 2,
 m 60 3,
 o 61 (.bin .add) [t 59, t 60],
 m 10 61]
def c14_28 : EC := .rg c14_28l false
@[simp] theorem c14_28e : Rg c14_28 c14_28l false := rgE _ _
@[simp] def c14_29l : List EO := [o 63 (.bin .eql) [t 19, i 11],
 m 62 63]
def c14_29 : EC := .rg c14_29l false
@[simp] theorem c14_29e : Rg c14_29 c14_29l false := rgE _ _
@[simp] def c14_30l : List EO := [m 64 2,
 m 65 3,
 o 66 (.bin .sub) [t 64, t 65],
 m 10 66]
def c14_30 : EC := .rg c14_30l false
@[simp] theorem c14_30e : Rg c14_30 c14_30l false := rgE _ _
@[simp] def c14_31l : List EO := [o 68 (.bin .eql) [t 19, i 12],
 m 67 68]
def c14_31 : EC := .rg c14_31l false
@[simp] theorem c14_31e : Rg c14_31 c14_31l false := rgE _ _
@[simp] def c14_32l : List EO := [m 69 2,
 o 70 (.bin .neq) [t 69, i 0],
 m 71 70,
 y 72 71 .mv [t 3],
 y 73 71 .mv [t 3],
 y 74 71 (.un .neg) [t 73],
 y 75 71 (.mm true) [t 72, t 74],
 y 76 71 .mv [t 2],
 y 77 71 .mv [t 2],
 y 78 71 (.un .neg) [t 77],
 y 79 71 (.mm true) [t 76, t 78],
 y 80 71 (.bin .quo) [i 1000000000000, t 79],
 y 81 71 (.bin .gtr) [t 75, t 80],
 o 82 .pick [t 71, t 81, b false]]
def c14_32 : EC := .rg c14_32l false
@[simp] theorem c14_32e : Rg c14_32 c14_32l false := rgE _ _
@[simp] def c14_33l : List EO := [o 8 .mv [i 0],
 o 9 .mv [b false]]
def c14_33 : EC := .rg c14_33l false
@[simp] theorem c14_33e : Rg c14_33 c14_33l false := rgE _ _
def c14_34 : EC := .sq c14_33 .rt
@[simp] theorem c14_34e : Sq c14_34 c14_33 .rt := sqE _ _
def c14_35 : EC := .cd (t 82) c14_34 .skip
@[simp] theorem c14_35e : Cd c14_35 (t 82) c14_34 .skip := cdE _ _ _
def c14_36 : EC := .sq c14_32 c14_35
@[simp] theorem c14_36e : Sq c14_36 c14_32 c14_35 := sqE _ _
@[simp] def c14_37l : List EO := [m 83 2,
 m 84 3,
 o 85 (.bin .mul) [t 83, t 84],
 m 10 85]
def c14_37 : EC := .rg c14_37l false
@[simp] theorem c14_37e : Rg c14_37 c14_37l false := rgE _ _
def c14_38 : EC := .sq c14_36 c14_37
@[simp] theorem c14_38e : Sq c14_38 c14_36 c14_37 := sqE _ _
@[simp] def c14_39l : List EO := [o 87 (.bin .eql) [t 19, i 13],
 m 86 87]
def c14_39 : EC := .rg c14_39l false
@[simp] theorem c14_39e : Rg c14_39 c14_39l false := rgE _ _
@[simp] def c14_40l : List EO := [m 88 2,
 m 89 3,
 o 90 (.mm false) [t 88, t 89],
 m 10 90]
def c14_40 : EC := .rg c14_40l false
@[simp] theorem c14_40e : Rg c14_40 c14_40l false := rgE _ _
@[simp] def c14_41l : List EO := [o 92 (.bin .eql) [t 19, i 14],
 m 91 92]
def c14_41 : EC := .rg c14_41l false
@[simp] theorem c14_41e : Rg c14_41 c14_41l false := rgE _ _
@[simp] def c14_42l : List EO := [m 93 2,
 m 94 3,
 o 95 (.mm true) [t 93, t 94],
 m 10 95]
def c14_42 : EC := .rg c14_42l false
@[simp] theorem c14_42e : Rg c14_42 c14_42l false := rgE _ _
@[simp] def c14_43l : List EO := [o 97 (.bin .eql) [t 19, i 15],
 m 96 97]
def c14_43 : EC := .rg c14_43l false
@[simp] theorem c14_43e : Rg c14_43 c14_43l false := rgE _ _
@[simp] def c14_44l : List EO := [m 98 2,
 o 99 (.bin .neq) [t 98, i 0],
 m 100 99,
 y 101 100 .mv [t 3],
 y 102 100 (.bin .neq) [t 101, i 0],
 o 103 .pick [t 100, t 102, b false],
 o 104 (.call 48) [t 103],
 m 10 104]
def c14_44 : EC := .rg c14_44l false
@[simp] theorem c14_44e : Rg c14_44 c14_44l false := rgE _ _
@[simp] def c14_45l : List EO := [o 106 (.bin .eql) [t 19, i 16],
 m 105 106]
def c14_45 : EC := .rg c14_45l false
@[simp] theorem c14_45e : Rg c14_45 c14_45l false := rgE _ _
@[simp] def c14_46l : List EO := [m 107 2,
 o 108 (.bin .neq) [t 107, i 0],
 m 109 108,
 n 110 109 .mv [t 3],
 n 111 109 (.bin .neq) [t 110, i 0],
 o 112 .pick [t 109, b true, t 111],
 o 113 (.call 48) [t 112],
 m 10 113]
def c14_46 : EC := .rg c14_46l false
@[simp] theorem c14_46e : Rg c14_46 c14_46l false := rgE _ _
@[simp] def c14_47l : List EO := [o 115 (.bin .eql) [t 19, i 17],
 m 114 115]
def c14_47 : EC := .rg c14_47l false
@[simp] theorem c14_47e : Rg c14_47 c14_47l false := rgE _ _
@[simp] def c14_48l : List EO := [m 116 2,
 m 117 3,
 o 118 (.bin .lss) [t 116, t 117],
 o 119 (.call 48) [t 118],
 m 10 119]
def c14_48 : EC := .rg c14_48l false
@[simp] theorem c14_48e : Rg c14_48 c14_48l false := rgE _ _
@[simp] def c14_49l : List EO := [o 121 (.bin .eql) [t 19, i 18],
 m 120 121]
def c14_49 : EC := .rg c14_49l false
@[simp] theorem c14_49e : Rg c14_49 c14_49l false := rgE _ _
@[simp] def c14_50l : List EO := [m 122 2,
 m 123 3,
 o 124 (.bin .leq) [t 122, t 123],
 o 125 (.call 48) [t 124],
 m 10 125]
def c14_50 : EC := .rg c14_50l false
@[simp] theorem c14_50e : Rg c14_50 c14_50l false := rgE _ _
@[simp] def c14_51l : List EO := [o 127 (.bin .eql) [t 19, i 19],
 m 126 127]
def c14_51 : EC := .rg c14_51l false
@[simp] theorem c14_51e : Rg c14_51 c14_51l false := rgE _ _
@[simp] def c14_52l : List EO := [m 128 2,
 m 129 3,
 o 130 (.bin .eql) [t 128, t 129],
 o 131 (.call 48) [t 130],
 m 10 131]
def c14_52 : EC := .rg c14_52l false
@[simp] theorem c14_52e : Rg c14_52 c14_52l false := rgE _ _
@[simp] def c14_53l : List EO := [o 133 (.bin .eql) [t 19, i 20],
 m 132 133]
def c14_53 : EC := .rg c14_53l false
@[simp] theorem c14_53e : Rg c14_53 c14_53l false := rgE _ _
@[simp] def c14_54l : List EO := [m 134 2,
 m 135 3,
 o 136 (.bin .neq) [t 134, t 135],
 o 137 (.call 48) [t 136],
 m 10 137]
def c14_54 : EC := .rg c14_54l false
@[simp] theorem c14_54e : Rg c14_54 c14_54l false := rgE _ _
@[simp] def c14_55l : List EO := [o 139 (.bin .eql) [t 19, i 21],
 m 138 139]
def c14_55 : EC := .rg c14_55l false
@[simp] theorem c14_55e : Rg c14_55 c14_55l false := rgE _ _
@[simp] def c14_56l : List EO := [m 140 2,
 m 141 3,
 o 142 (.bin .geq) [t 140, t 141],
 o 143 (.call 48) [t 142],
 m 10 143]
def c14_56 : EC := .rg c14_56l false
@[simp] theorem c14_56e : Rg c14_56 c14_56l false := rgE _ _
@[simp] def c14_57l : List EO := [o 145 (.bin .eql) [t 19, i 22],
 m 144 145]
def c14_57 : EC := .rg c14_57l false
@[simp] theorem c14_57e : Rg c14_57 c14_57l false := rgE _ _
@[simp] def c14_58l : List EO := [m 146 2,
 m 147 3,
 o 148 (.bin .gtr) [t 146, t 147],
 o 149 (.call 48) [t 148],
 m 10 149]
def c14_58 : EC := .rg c14_58l false
@[simp] theorem c14_58e : Rg c14_58 c14_58l false := rgE _ _
@[simp] def c14_59l : List EO := [o 8 .mv [i 0],
 o 9 .mv [b false]]
def c14_59 : EC := .rg c14_59l false
@[simp] theorem c14_59e : Rg c14_59 c14_59l false := rgE _ _
def c14_60 : EC := .sq c14_59 .rt
@[simp] theorem c14_60e : Sq c14_60 c14_59 .rt := sqE _ _
def c14_61 : EC := .cd (t 144) c14_58 c14_60
@[simp] theorem c14_61e : Cd c14_61 (t 144) c14_58 c14_60 := cdE _ _ _
def c14_62 : EC := .sq c14_57 c14_61
@[simp] theorem c14_62e : Sq c14_62 c14_57 c14_61 := sqE _ _
def c14_63 : EC := .cd (t 138) c14_56 c14_62
@[simp] theorem c14_63e : Cd c14_63 (t 138) c14_56 c14_62 := cdE _ _ _
def c14_64 : EC := .sq c14_55 c14_63
@[simp] theorem c14_64e : Sq c14_64 c14_55 c14_63 := sqE _ _
def c14_65 : EC := .cd (t 132) c14_54 c14_64
@[simp] theorem c14_65e : Cd c14_65 (t 132) c14_54 c14_64 := cdE _ _ _
def c14_66 : EC := .sq c14_53 c14_65
@[simp] theorem c14_66e : Sq c14_66 c14_53 c14_65 := sqE _ _
def c14_67 : EC := .cd (t 126) c14_52 c14_66
@[simp] theorem c14_67e : Cd c14_67 (t 126) c14_52 c14_66 := cdE _ _ _
def c14_68 : EC := .sq c14_51 c14_67
@[simp] theorem c14_68e : Sq c14_68 c14_51 c14_67 := sqE _ _
def c14_69 : EC := .cd (t 120) c14_50 c14_68
@[simp] theorem c14_69e : Cd c14_69 (t 120) c14_50 c14_68 := cdE _ _ _
def c14_70 : EC := .sq c14_49 c14_69
@[simp] theorem c14_70e : Sq c14_70 c14_49 c14_69 := sqE _ _
def c14_71 : EC := .cd (t 114) c14_48 c14_70
@[simp] theorem c14_71e : Cd c14_71 (t 114) c14_48 c14_70 := cdE _ _ _
def c14_72 : EC := .sq c14_47 c14_71
@[simp] theorem c14_72e : Sq c14_72 c14_47 c14_71 := sqE _ _
def c14_73 : EC := .cd (t 105) c14_46 c14_72
@[simp] theorem c14_73e : Cd c14_73 (t 105) c14_46 c14_72 := cdE _ _ _
def c14_74 : EC := .sq c14_45 c14_73
@[simp] theorem c14_74e : Sq c14_74 c14_45 c14_73 := sqE _ _
def c14_75 : EC := .cd (t 96) c14_44 c14_74
@[simp] theorem c14_75e : Cd c14_75 (t 96) c14_44 c14_74 := cdE _ _ _
def c14_76 : EC := .sq c14_43 c14_75
@[simp] theorem c14_76e : Sq c14_76 c14_43 c14_75 := sqE _ _
def c14_77 : EC := .cd (t 91) c14_42 c14_76
@[simp] theorem c14_77e : Cd c14_77 (t 91) c14_42 c14_76 := cdE _ _ _
def c14_78 : EC := .sq c14_41 c14_77
@[simp] theorem c14_78e : Sq c14_78 c14_41 c14_77 := sqE _ _
def c14_79 : EC := .cd (t 86) c14_40 c14_78
@[simp] theorem c14_79e : Cd c14_79 (t 86) c14_40 c14_78 := cdE _ _ _
def c14_80 : EC := .sq c14_39 c14_79
@[simp] theorem c14_80e : Sq c14_80 c14_39 c14_79 := sqE _ _
def c14_81 : EC := .cd (t 67) c14_38 c14_80
@[simp] theorem c14_81e : Cd c14_81 (t 67) c14_38 c14_80 := cdE _ _ _
def c14_82 : EC := .sq c14_31 c14_81
@[simp] theorem c14_82e : Sq c14_82 c14_31 c14_81 := sqE _ _
def c14_83 : EC := .cd (t 62) c14_30 c14_82
@[simp] theorem c14_83e : Cd c14_83 (t 62) c14_30 c14_82 := cdE _ _ _
def c14_84 : EC := .sq c14_29 c14_83
@[simp] theorem c14_84e : Sq c14_84 c14_29 c14_83 := sqE _ _
def c14_85 : EC := .cd (t 57) c14_28 c14_84
@[simp] theorem c14_85e : Cd c14_85 (t 57) c14_28 c14_84 := cdE _ _ _
def c14_86 : EC := .sq c14_27 c14_85
@[simp] theorem c14_86e : Sq c14_86 c14_27 c14_85 := sqE _ _
def c14_87 : EC := .cd (t 35) c14_26 c14_86
@[simp] theorem c14_87e : Cd c14_87 (t 35) c14_26 c14_86 := cdE _ _ _
def c14_88 : EC := .sq c14_14 c14_87
@[simp] theorem c14_88e : Sq c14_88 c14_14 c14_87 := sqE _ _
def c14_89 : EC := .cd (t 30) c14_13 c14_88
@[simp] theorem c14_89e : Cd c14_89 (t 30) c14_13 c14_88 := cdE _ _ _
def c14_90 : EC := .sq c14_12 c14_89
@[simp] theorem c14_90e : Sq c14_90 c14_12 c14_89 := sqE _ _
def c14_91 : EC := .cd (t 24) c14_11 c14_90
@[simp] theorem c14_91e : Cd c14_91 (t 24) c14_11 c14_90 := cdE _ _ _
def c14_92 : EC := .sq c14_10 c14_91
@[simp] theorem c14_92e : Sq c14_92 c14_10 c14_91 := sqE _ _
def c14_93 : EC := .cd (t 20) c14_9 c14_92
@[simp] theorem c14_93e : Cd c14_93 (t 20) c14_9 c14_92 := cdE _ _ _
def c14_94 : EC := .sq c14_8 c14_93
@[simp] theorem c14_94e : Sq c14_94 c14_8 c14_93 := sqE _ _
def c14_95 : EC := .bk 0 c14_94
@[simp] theorem c14_95e : Bk c14_95 0 c14_94 := bkE _ _
def c14_96 : EC := .sq c14_7 c14_95
@[simp] theorem c14_96e : Sq c14_96 c14_7 c14_95 := sqE _ _
@[simp] def c14_97l : List EO := [m 150 10,
 o 151 (.call 15) [t 150],
 o 152 (.un .not) [t 151]]
def c14_97 : EC := .rg c14_97l false
@[simp] theorem c14_97e : Rg c14_97 c14_97l false := rgE _ _
@[simp] def c14_98l : List EO := [o 8 .mv [i 0],
 o 9 .mv [b false]]
def c14_98 : EC := .rg c14_98l false
@[simp] theorem c14_98e : Rg c14_98 c14_98l false := rgE _ _
def c14_99 : EC := .sq c14_98 .rt
@[simp] theorem c14_99e : Sq c14_99 c14_98 .rt := sqE _ _
def c14_100 : EC := .cd (t 152) c14_99 .skip
@[simp] theorem c14_100e : Cd c14_100 (t 152) c14_99 .skip := cdE _ _ _
def c14_101 : EC := .sq c14_97 c14_100
@[simp] theorem c14_101e : Sq c14_101 c14_97 c14_100 := sqE _ _
@[simp] def c14_102l : List EO := [m 153 10,
 m 8 153,
 o 9 .mv [b true]]
def c14_102 : EC := .rg c14_102l false
@[simp] theorem c14_102e : Rg c14_102 c14_102l false := rgE _ _
def c14_103 : EC := .sq c14_102 .rt
@[simp] theorem c14_103e : Sq c14_103 c14_102 .rt := sqE _ _
def c14_104 : EC := .sq c14_101 c14_103
@[simp] theorem c14_104e : Sq c14_104 c14_101 c14_103 := sqE _ _
def c14_105 : EC := .sq c14_96 c14_104
@[simp] theorem c14_105e : Sq c14_105 c14_96 c14_104 := sqE _ _
def c14_106 : EC := .sq c14_6 c14_105
@[simp] theorem c14_106e : Sq c14_106 c14_6 c14_105 := sqE _ _
def c14_107 : EC := .sq c14_5 c14_106
@[simp] theorem c14_107e : Sq c14_107 c14_5 c14_106 := sqE _ _
def c14_108 : EC := .sq c14_0 c14_107
@[simp] theorem c14_108e : Sq c14_108 c14_0 c14_107 := sqE _ _
def c_tallystoneref34_Operate_14 : EC := c14_108
theorem k_14 : ecF Tryd.prog 14 = some (154, c_tallystoneref34_Operate_14, [.tm 8, .tm 9]) := by kernel_rfl

/-- tallystone/tallystoneref02.Amount -/
@[simp] def c15_0l : List EO := [o 2 .mv [b false]]
def c15_0 : EC := .rg c15_0l false
@[simp] theorem c15_0e : Rg c15_0 c15_0l false := rgE _ _
@[simp] def c15_1l : List EO := [m 3 0,
 o 4 (.bin .geq) [t 3, i (-1000000000000)],
 m 5 4,
 y 6 5 .mv [t 0],
 y 7 5 (.bin .leq) [t 6, i 1000000000000],
 o 8 .pick [t 5, t 7, b false],
 m 2 8]
def c15_1 : EC := .rg c15_1l false
@[simp] theorem c15_1e : Rg c15_1 c15_1l false := rgE _ _
def c15_2 : EC := .sq c15_1 .rt
@[simp] theorem c15_2e : Sq c15_2 c15_1 .rt := sqE _ _
def c15_3 : EC := .sq c15_0 c15_2
@[simp] theorem c15_3e : Sq c15_3 c15_0 c15_2 := sqE _ _
def c_tallystoneref02_Amount_15 : EC := c15_3
theorem k_15 : ecF Tryd.prog 15 = some (9, c_tallystoneref02_Amount_15, [.tm 2]) := by kernel_rfl

/-- tallystone/tallystonelaw33.awake -/
@[simp] def c16_0l : List EO := [o 0 .mv [b false]]
def c16_0 : EC := .rg c16_0l false
@[simp] theorem c16_0e : Rg c16_0 c16_0l false := rgE _ _
@[simp] def c16_1l : List EO := [o 6 (.build [.t (.int .i64 0), .t (.int .i64 0), .t (.int .i64 0), .t (.int .i64 0), .t (.str []), .snil] [(0, 1), (4, 1)]) [i 2, c (.t (.str [97]))],
 o 1 (.alloc [.t (.int .i64 0), .t (.int .i64 0), .t (.int .i64 0), .t (.int .i64 0), .t (.str []), .snil]) [],
 u (.store 6) [t 1, t 6]]
def c16_1 : EC := .rg c16_1l false
@[simp] theorem c16_1e : Rg c16_1 c16_1l false := rgE _ _
@[simp] def c16_2l : List EO := [o 8 (.load 6 true) [t 1],
 o 9 (.call 19) [t 8],
 o 10 (.call 18) [t 9, c (.snil), b false],
 m 7 10,
 o 11 (.ext 0) [t 7],
 o 12 (.ext 1) [t 7],
 m 2 11,
 m 3 12]
def c16_2 : EC := .rg c16_2l false
@[simp] theorem c16_2e : Rg c16_2 c16_2l false := rgE _ _
@[simp] def c16_3l : List EO := [o 14 (.load 6 true) [t 1],
 o 15 (.load 6 true) [t 1],
 o 16 (.bsl 6) [t 14, t 15],
 o 17 (.build [.t (.int .i64 0), .t (.int .i64 0), .t (.int .i64 0), .t (.int .i64 0), .t (.str []), .snil] [(0, 1), (5, 1)]) [i 14, t 16],
 o 18 (.call 19) [t 17],
 o 19 (.bsl 1) [c (.t (.str [97]))],
 o 20 (.call 18) [t 18, t 19, b false],
 m 13 20,
 o 21 (.ext 0) [t 13],
 o 22 (.ext 1) [t 13],
 m 4 21,
 m 5 22]
def c16_3 : EC := .rg c16_3l false
@[simp] theorem c16_3e : Rg c16_3 c16_3l false := rgE _ _
@[simp] def c16_4l : List EO := [m 23 2,
 o 24 (.bin .eql) [t 23, i 0],
 m 25 24,
 y 26 25 .mv [t 3],
 y 27 25 (.bin .eql) [t 26, i 17],
 o 28 .pick [t 25, t 27, b false],
 m 29 28,
 y 30 29 .mv [t 4],
 y 31 29 (.bin .eql) [t 30, i 2],
 o 32 .pick [t 29, t 31, b false],
 m 33 32,
 y 34 33 .mv [t 5],
 y 35 33 (.bin .eql) [t 34, i 0],
 o 36 .pick [t 33, t 35, b false],
 m 0 36]
def c16_4 : EC := .rg c16_4l false
@[simp] theorem c16_4e : Rg c16_4 c16_4l false := rgE _ _
def c16_5 : EC := .sq c16_4 .rt
@[simp] theorem c16_5e : Sq c16_5 c16_4 .rt := sqE _ _
def c16_6 : EC := .sq c16_3 c16_5
@[simp] theorem c16_6e : Sq c16_6 c16_3 c16_5 := sqE _ _
def c16_7 : EC := .sq c16_2 c16_6
@[simp] theorem c16_7e : Sq c16_7 c16_2 c16_6 := sqE _ _
def c16_8 : EC := .sq c16_1 c16_7
@[simp] theorem c16_8e : Sq c16_8 c16_1 c16_7 := sqE _ _
def c16_9 : EC := .sq c16_0 c16_8
@[simp] theorem c16_9e : Sq c16_9 c16_0 c16_8 := sqE _ _
def c_tallystonelaw33_awake_16 : EC := c16_9
theorem k_16 : ecF Tryd.prog 16 = some (37, c_tallystonelaw33_awake_16, [.tm 0]) := by kernel_rfl

/-- tallystone/tallystoneref32.Few -/
@[simp] def c17_0l : List EO := [o 2 .mv [b false]]
def c17_0 : EC := .rg c17_0l false
@[simp] theorem c17_0e : Rg c17_0 c17_0l false := rgE _ _
@[simp] def c17_1l : List EO := [o 3 .mv [i 0]]
def c17_1 : EC := .rg c17_1l false
@[simp] theorem c17_1e : Rg c17_1 c17_1l false := rgE _ _
@[simp] def c17_2l : List EO := [m 5 3,
 m 6 0,
 o 7 .lenL [t 6],
 o 8 (.bin .lss) [t 5, t 7]]
def c17_2 : EC := .rg c17_2l false
@[simp] theorem c17_2e : Rg c17_2 c17_2l false := rgE _ _
def c17_3 : EC := .cd (t 8) .skip (.ex 0)
@[simp] theorem c17_3e : Cd c17_3 (t 8) .skip (.ex 0) := cdE _ _ _
def c17_4 : EC := .sq c17_2 c17_3
@[simp] theorem c17_4e : Sq c17_4 c17_2 c17_3 := sqE _ _
@[simp] def c17_5l : List EO := [m 11 0,
 m 12 3,
 o 13 (.iaS 4) [t 11, t 12],
 o 14 (.faddr 0) [t 13],
 o 15 (.load 1 false) [t 14],
 o 16 .lenS [t 15],
 o 17 (.bin .gtr) [t 16, i 100],
 m 18 17,
 n 19 18 .mv [t 0],
 n 20 18 .mv [t 3],
 n 21 18 (.iaS 4) [t 19, t 20],
 n 22 18 (.faddr 2) [t 21],
 n 23 18 (.load 1 false) [t 22],
 n 24 18 .lenL [t 23],
 n 25 18 (.bin .gtr) [t 24, i 40],
 o 26 .pick [t 18, b true, t 25]]
def c17_5 : EC := .rg c17_5l false
@[simp] theorem c17_5e : Rg c17_5 c17_5l false := rgE _ _
@[simp] def c17_6l : List EO := [o 2 .mv [b false]]
def c17_6 : EC := .rg c17_6l false
@[simp] theorem c17_6e : Rg c17_6 c17_6l false := rgE _ _
def c17_7 : EC := .sq c17_6 .rt
@[simp] theorem c17_7e : Sq c17_7 c17_6 .rt := sqE _ _
def c17_8 : EC := .cd (t 26) c17_7 .skip
@[simp] theorem c17_8e : Cd c17_8 (t 26) c17_7 .skip := cdE _ _ _
def c17_9 : EC := .sq c17_5 c17_8
@[simp] theorem c17_9e : Sq c17_9 c17_5 c17_8 := sqE _ _
@[simp] def c17_10l : List EO := [o 4 .mv [i 0]]
def c17_10 : EC := .rg c17_10l false
@[simp] theorem c17_10e : Rg c17_10 c17_10l false := rgE _ _
@[simp] def c17_11l : List EO := [m 27 4,
 m 28 0,
 m 29 3,
 o 30 (.iaS 4) [t 28, t 29],
 o 31 (.faddr 2) [t 30],
 o 32 (.load 1 false) [t 31],
 o 33 .lenL [t 32],
 o 34 (.bin .lss) [t 27, t 33]]
def c17_11 : EC := .rg c17_11l false
@[simp] theorem c17_11e : Rg c17_11 c17_11l false := rgE _ _
def c17_12 : EC := .cd (t 34) .skip (.ex 2)
@[simp] theorem c17_12e : Cd c17_12 (t 34) .skip (.ex 2) := cdE _ _ _
def c17_13 : EC := .sq c17_11 c17_12
@[simp] theorem c17_13e : Sq c17_13 c17_11 c17_12 := sqE _ _
@[simp] def c17_14l : List EO := [m 37 0,
 m 38 3,
 o 39 (.iaS 4) [t 37, t 38],
 o 40 (.faddr 2) [t 39],
 o 41 (.load 1 false) [t 40],
 m 42 4,
 o 43 (.iaS 9) [t 41, t 42],
 o 44 (.faddr 2) [t 43],
 o 45 (.load 1 false) [t 44],
 o 46 .lenS [t 45],
 o 47 (.bin .gtr) [t 46, i 100],
 m 48 47,
 n 49 48 .mv [t 0],
 n 50 48 .mv [t 3],
 n 51 48 (.iaS 4) [t 49, t 50],
 n 52 48 (.faddr 2) [t 51],
 n 53 48 (.load 1 false) [t 52],
 n 54 48 .mv [t 4],
 n 55 48 (.iaS 9) [t 53, t 54],
 n 56 48 (.faddr 3) [t 55],
 n 57 48 (.load 6 true) [t 56],
 n 58 48 (.call 49) [t 57, i 201],
 n 59 48 (.bin .gtr) [t 58, i 200],
 o 60 .pick [t 48, b true, t 59]]
def c17_14 : EC := .rg c17_14l false
@[simp] theorem c17_14e : Rg c17_14 c17_14l false := rgE _ _
@[simp] def c17_15l : List EO := [o 2 .mv [b false]]
def c17_15 : EC := .rg c17_15l false
@[simp] theorem c17_15e : Rg c17_15 c17_15l false := rgE _ _
def c17_16 : EC := .sq c17_15 .rt
@[simp] theorem c17_16e : Sq c17_16 c17_15 .rt := sqE _ _
def c17_17 : EC := .cd (t 60) c17_16 .skip
@[simp] theorem c17_17e : Cd c17_17 (t 60) c17_16 .skip := cdE _ _ _
def c17_18 : EC := .sq c17_14 c17_17
@[simp] theorem c17_18e : Sq c17_18 c17_14 c17_17 := sqE _ _
def c17_19 : EC := .bk 3 c17_18
@[simp] theorem c17_19e : Bk c17_19 3 c17_18 := bkE _ _
@[simp] def c17_20l : List EO := [m 35 4,
 o 36 (.bin .add) [t 35, i 1],
 m 4 36]
def c17_20 : EC := .rg c17_20l false
@[simp] theorem c17_20e : Rg c17_20 c17_20l false := rgE _ _
def c17_21 : EC := .sq c17_19 c17_20
@[simp] theorem c17_21e : Sq c17_21 c17_19 c17_20 := sqE _ _
def c17_22 : EC := .sq c17_13 c17_21
@[simp] theorem c17_22e : Sq c17_22 c17_13 c17_21 := sqE _ _
def c17_23 : EC := .bk 2 (.lp c17_22)
@[simp] theorem c17_23e : Bk c17_23 2 (.lp c17_22) := bkE _ _
def c17_24 : EC := .sq c17_10 c17_23
@[simp] theorem c17_24e : Sq c17_24 c17_10 c17_23 := sqE _ _
def c17_25 : EC := .sq c17_9 c17_24
@[simp] theorem c17_25e : Sq c17_25 c17_9 c17_24 := sqE _ _
def c17_26 : EC := .bk 1 c17_25
@[simp] theorem c17_26e : Bk c17_26 1 c17_25 := bkE _ _
@[simp] def c17_27l : List EO := [m 9 3,
 o 10 (.bin .add) [t 9, i 1],
 m 3 10]
def c17_27 : EC := .rg c17_27l false
@[simp] theorem c17_27e : Rg c17_27 c17_27l false := rgE _ _
def c17_28 : EC := .sq c17_26 c17_27
@[simp] theorem c17_28e : Sq c17_28 c17_26 c17_27 := sqE _ _
def c17_29 : EC := .sq c17_4 c17_28
@[simp] theorem c17_29e : Sq c17_29 c17_4 c17_28 := sqE _ _
def c17_30 : EC := .bk 0 (.lp c17_29)
@[simp] theorem c17_30e : Bk c17_30 0 (.lp c17_29) := bkE _ _
def c17_31 : EC := .sq c17_1 c17_30
@[simp] theorem c17_31e : Sq c17_31 c17_1 c17_30 := sqE _ _
@[simp] def c17_32l : List EO := [m 61 0,
 o 62 .lenL [t 61],
 o 63 (.bin .leq) [t 62, i 50],
 m 2 63]
def c17_32 : EC := .rg c17_32l false
@[simp] theorem c17_32e : Rg c17_32 c17_32l false := rgE _ _
def c17_33 : EC := .sq c17_32 .rt
@[simp] theorem c17_33e : Sq c17_33 c17_32 .rt := sqE _ _
def c17_34 : EC := .sq c17_31 c17_33
@[simp] theorem c17_34e : Sq c17_34 c17_31 c17_33 := sqE _ _
def c17_35 : EC := .sq c17_0 c17_34
@[simp] theorem c17_35e : Sq c17_35 c17_0 c17_34 := sqE _ _
def c_tallystoneref32_Few_17 : EC := c17_35
theorem k_17 : ecF Tryd.prog 17 = some (64, c_tallystoneref32_Few_17, [.tm 2]) := by kernel_rfl

/-- tallystone/tallystonelaw32.Own -/
@[simp] def c19_0l : List EO := [o 1 .box [t 0],
 o 2 (.alloc [.t (.int .i64 0), .t (.int .i64 0), .t (.int .i64 0), .t (.int .i64 0), .t (.str []), .snil]) []]
def c19_0 : EC := .rg c19_0l false
@[simp] theorem c19_0e : Rg c19_0 c19_0l false := rgE _ _
@[simp] def c19_1l : List EO := [o 5 (.faddr 0) [t 1],
 o 6 (.load 1 false) [t 5],
 o 7 (.faddr 1) [t 1],
 o 8 (.load 1 false) [t 7],
 o 9 (.faddr 2) [t 1],
 o 10 (.load 1 false) [t 9],
 o 11 (.faddr 3) [t 1],
 o 12 (.load 1 false) [t 11],
 o 13 (.faddr 4) [t 1],
 o 14 (.load 1 false) [t 13],
 o 15 (.build [.t (.int .i64 0), .t (.int .i64 0), .t (.int .i64 0), .t (.int .i64 0), .t (.str []), .snil] [(0, 1), (1, 1), (2, 1), (3, 1), (4, 1)]) [t 6, t 8, t 10, t 12, t 14],
 o 3 (.alloc [.t (.int .i64 0), .t (.int .i64 0), .t (.int .i64 0), .t (.int .i64 0), .t (.str []), .snil]) [],
 u (.store 6) [t 3, t 15]]
def c19_1 : EC := .rg c19_1l false
@[simp] theorem c19_1e : Rg c19_1 c19_1l false := rgE _ _
@[simp] def c19_2l : List EO := [o 4 .mv [i 0]]
def c19_2 : EC := .rg c19_2l false
@[simp] theorem c19_2e : Rg c19_2 c19_2l false := rgE _ _
@[simp] def c19_3l : List EO := [m 16 4,
 o 17 (.faddr 5) [t 1],
 o 18 (.load 1 false) [t 17],
 o 19 .lenL [t 18],
 o 20 (.bin .lss) [t 16, t 19]]
def c19_3 : EC := .rg c19_3l false
@[simp] theorem c19_3e : Rg c19_3 c19_3l false := rgE _ _
def c19_4 : EC := .cd (t 20) .skip (.ex 0)
@[simp] theorem c19_4e : Cd c19_4 (t 20) .skip (.ex 0) := cdE _ _ _
def c19_5 : EC := .sq c19_3 c19_4
@[simp] theorem c19_5e : Sq c19_5 c19_3 c19_4 := sqE _ _
@[simp] def c19_6l : List EO := [o 23 (.faddr 5) [t 3],
 o 24 (.load 1 false) [t 23],
 o 25 (.faddr 5) [t 1],
 o 26 (.load 1 false) [t 25],
 m 27 4,
 o 28 (.iaS 6) [t 26, t 27],
 o 29 (.load 6 true) [t 28],
 o 30 (.call 19) [t 29],
 o 31 (.bsl 6) [t 30],
 o 32 (.app 47 6 72) [t 24, t 31],
 o 33 (.faddr 5) [t 3],
 u (.store 1) [t 33, t 32]]
def c19_6 : EC := .rg c19_6l true
@[simp] theorem c19_6e : Rg c19_6 c19_6l true := rgE _ _
def c19_7 : EC := .bk 1 c19_6
@[simp] theorem c19_7e : Bk c19_7 1 c19_6 := bkE _ _
@[simp] def c19_8l : List EO := [m 21 4,
 o 22 (.bin .add) [t 21, i 1],
 m 4 22]
def c19_8 : EC := .rg c19_8l false
@[simp] theorem c19_8e : Rg c19_8 c19_8l false := rgE _ _
def c19_9 : EC := .sq c19_7 c19_8
@[simp] theorem c19_9e : Sq c19_9 c19_7 c19_8 := sqE _ _
def c19_10 : EC := .sq c19_5 c19_9
@[simp] theorem c19_10e : Sq c19_10 c19_5 c19_9 := sqE _ _
def c19_11 : EC := .bk 0 (.lp c19_10)
@[simp] theorem c19_11e : Bk c19_11 0 (.lp c19_10) := bkE _ _
def c19_12 : EC := .sq c19_2 c19_11
@[simp] theorem c19_12e : Sq c19_12 c19_2 c19_11 := sqE _ _
@[simp] def c19_13l : List EO := [o 34 (.load 6 true) [t 3],
 u (.store 6) [t 2, t 34]]
def c19_13 : EC := .rg c19_13l false
@[simp] theorem c19_13e : Rg c19_13 c19_13l false := rgE _ _
def c19_14 : EC := .sq c19_13 .rt
@[simp] theorem c19_14e : Sq c19_14 c19_13 .rt := sqE _ _
def c19_15 : EC := .sq c19_12 c19_14
@[simp] theorem c19_15e : Sq c19_15 c19_12 c19_14 := sqE _ _
def c19_16 : EC := .sq c19_1 c19_15
@[simp] theorem c19_16e : Sq c19_16 c19_1 c19_15 := sqE _ _
def c19_17 : EC := .sq c19_0 c19_16
@[simp] theorem c19_17e : Sq c19_17 c19_0 c19_16 := sqE _ _
def c_tallystonelaw32_Own_19 : EC := c19_17
theorem k_19 : ecF Tryd.prog 19 = some (35, c_tallystonelaw32_Own_19, [.ce 2 6 true]) := by kernel_rfl

/-- tallystone/tallystonelaw32.Own, with slices that grow in boxes -/
@[simp] def b19_0l : List EO := [o 1 .box [t 0],
 o 2 (.alloc [.t (.int .i64 0), .t (.int .i64 0), .t (.int .i64 0), .t (.int .i64 0), .t (.str []), .snil]) []]
def b19_0 : EC := .rg b19_0l false
@[simp] theorem b19_0e : Rg b19_0 b19_0l false := rgE _ _
@[simp] def b19_1l : List EO := [o 5 (.faddr 0) [t 1],
 o 6 (.load 1 false) [t 5],
 o 7 (.faddr 1) [t 1],
 o 8 (.load 1 false) [t 7],
 o 9 (.faddr 2) [t 1],
 o 10 (.load 1 false) [t 9],
 o 11 (.faddr 3) [t 1],
 o 12 (.load 1 false) [t 11],
 o 13 (.faddr 4) [t 1],
 o 14 (.load 1 false) [t 13],
 o 15 (.build [.t (.int .i64 0), .t (.int .i64 0), .t (.int .i64 0), .t (.int .i64 0), .t (.str []), .snil] [(0, 1), (1, 1), (2, 1), (3, 1), (4, 1)]) [t 6, t 8, t 10, t 12, t 14],
 o 3 (.alloc [.t (.int .i64 0), .t (.int .i64 0), .t (.int .i64 0), .t (.int .i64 0), .t (.str []), .snil]) [],
 u (.store 6) [t 3, t 15]]
def b19_1 : EC := .rg b19_1l false
@[simp] theorem b19_1e : Rg b19_1 b19_1l false := rgE _ _
@[simp] def b19_2l : List EO := [o 4 .mv [i 0]]
def b19_2 : EC := .rg b19_2l false
@[simp] theorem b19_2e : Rg b19_2 b19_2l false := rgE _ _
@[simp] def b19_3l : List EO := [m 16 4,
 o 17 (.faddr 5) [t 1],
 o 18 (.load 1 false) [t 17],
 o 19 .lenL [t 18],
 o 20 (.bin .lss) [t 16, t 19]]
def b19_3 : EC := .rg b19_3l false
@[simp] theorem b19_3e : Rg b19_3 b19_3l false := rgE _ _
def b19_4 : EC := .cd (t 20) .skip (.ex 0)
@[simp] theorem b19_4e : Cd b19_4 (t 20) .skip (.ex 0) := cdE _ _ _
def b19_5 : EC := .sq b19_3 b19_4
@[simp] theorem b19_5e : Sq b19_5 b19_3 b19_4 := sqE _ _
@[simp] def b19_6l : List EO := [o 23 (.faddr 5) [t 3],
 o 24 (.load 1 false) [t 23],
 o 25 (.faddr 5) [t 1],
 o 26 (.load 1 false) [t 25],
 m 27 4,
 o 28 (.iaS 6) [t 26, t 27],
 o 29 (.load 6 true) [t 28],
 o 30 (.call 19) [t 29],
 o 31 (.bsl 6) [t 30],
 o 32 (.appB 47 6 72) [t 24, t 31],
 o 33 (.faddr 5) [t 3],
 u (.store 1) [t 33, t 32]]
def b19_6 : EC := .rg b19_6l true
@[simp] theorem b19_6e : Rg b19_6 b19_6l true := rgE _ _
def b19_7 : EC := .bk 1 b19_6
@[simp] theorem b19_7e : Bk b19_7 1 b19_6 := bkE _ _
@[simp] def b19_8l : List EO := [m 21 4,
 o 22 (.bin .add) [t 21, i 1],
 m 4 22]
def b19_8 : EC := .rg b19_8l false
@[simp] theorem b19_8e : Rg b19_8 b19_8l false := rgE _ _
def b19_9 : EC := .sq b19_7 b19_8
@[simp] theorem b19_9e : Sq b19_9 b19_7 b19_8 := sqE _ _
def b19_10 : EC := .sq b19_5 b19_9
@[simp] theorem b19_10e : Sq b19_10 b19_5 b19_9 := sqE _ _
def b19_11 : EC := .bk 0 (.lp b19_10)
@[simp] theorem b19_11e : Bk b19_11 0 (.lp b19_10) := bkE _ _
def b19_12 : EC := .sq b19_2 b19_11
@[simp] theorem b19_12e : Sq b19_12 b19_2 b19_11 := sqE _ _
@[simp] def b19_13l : List EO := [o 34 (.load 6 true) [t 3],
 u (.store 6) [t 2, t 34]]
def b19_13 : EC := .rg b19_13l false
@[simp] theorem b19_13e : Rg b19_13 b19_13l false := rgE _ _
def b19_14 : EC := .sq b19_13 .rt
@[simp] theorem b19_14e : Sq b19_14 b19_13 .rt := sqE _ _
def b19_15 : EC := .sq b19_12 b19_14
@[simp] theorem b19_15e : Sq b19_15 b19_12 b19_14 := sqE _ _
def b19_16 : EC := .sq b19_1 b19_15
@[simp] theorem b19_16e : Sq b19_16 b19_1 b19_15 := sqE _ _
def b19_17 : EC := .sq b19_0 b19_16
@[simp] theorem b19_17e : Sq b19_17 b19_0 b19_16 := sqE _ _
def b_tallystonelaw32_Own_19 : EC := b19_17
theorem kb_19 : ecB Tryd.prog 19 = some (35, b_tallystonelaw32_Own_19, [.ce 2 6 true]) := by kernel_rfl

/-- tallystone/tallystoneref33.Type -/
@[simp] def c20_0l : List EO := [o 3 .box [t 0],
 o 6 .mv [i 0],
 o 7 .mv [i 0]]
def c20_0 : EC := .rg c20_0l false
@[simp] theorem c20_0e : Rg c20_0 c20_0l false := rgE _ _
@[simp] def c20_1l : List EO := [o 8 (.load 6 true) [t 3],
 o 9 (.build [.t (.int .i64 0), .t (.int .i64 0), .t (.str []), .t (.int .i64 0), .t (.int .i64 0), .t (.int .i64 0), .t (.int .i64 0), .t (.str []), .snil] [(0, 1), (3, 6)]) [i 2, t 8],
 o 10 (.bsl 9) [t 9],
 o 11 (.build [.t (.str []), .t (.bool false), .snil, .t (.int .i64 0)] [(0, 1), (3, 1), (2, 1)]) [c (.t (.str [97])), i 1, t 10],
 o 12 (.bsl 4) [t 11],
 o 13 (.call 40) [t 12],
 o 14 (.un .not) [t 13]]
def c20_1 : EC := .rg c20_1l false
@[simp] theorem c20_1e : Rg c20_1 c20_1l false := rgE _ _
@[simp] def c20_2l : List EO := [o 6 .mv [i 0],
 o 7 .mv [i 1]]
def c20_2 : EC := .rg c20_2l false
@[simp] theorem c20_2e : Rg c20_2 c20_2l false := rgE _ _
def c20_3 : EC := .sq c20_2 .rt
@[simp] theorem c20_3e : Sq c20_3 c20_2 .rt := sqE _ _
def c20_4 : EC := .cd (t 14) c20_3 .skip
@[simp] theorem c20_4e : Cd c20_4 (t 14) c20_3 .skip := cdE _ _ _
def c20_5 : EC := .sq c20_1 c20_4
@[simp] theorem c20_5e : Sq c20_5 c20_1 c20_4 := sqE _ _
@[simp] def c20_6l : List EO := [o 15 (.load 6 true) [t 3],
 m 16 1,
 m 17 2,
 o 18 (.call 54) [t 15, t 16, t 17],
 o 19 (.ext 0) [t 18],
 o 20 (.ext 1) [t 18],
 m 6 19,
 m 7 20]
def c20_6 : EC := .rg c20_6l false
@[simp] theorem c20_6e : Rg c20_6 c20_6l false := rgE _ _
def c20_7 : EC := .sq c20_6 .rt
@[simp] theorem c20_7e : Sq c20_7 c20_6 .rt := sqE _ _
def c20_8 : EC := .sq c20_5 c20_7
@[simp] theorem c20_8e : Sq c20_8 c20_5 c20_7 := sqE _ _
def c20_9 : EC := .sq c20_0 c20_8
@[simp] theorem c20_9e : Sq c20_9 c20_0 c20_8 := sqE _ _
def c_tallystoneref33_Type_20 : EC := c20_9
theorem k_20 : ecF Tryd.prog 20 = some (21, c_tallystoneref33_Type_20, [.tm 6, .tm 7]) := by kernel_rfl

/-- tallystone/tallystoneref34.Few -/
@[simp] def c21_0l : List EO := [o 1 .box [t 0],
 o 2 .mv [b false]]
def c21_0 : EC := .rg c21_0l false
@[simp] theorem c21_0e : Rg c21_0 c21_0l false := rgE _ _
@[simp] def c21_1l : List EO := [o 3 (.faddr 0) [t 1],
 o 4 (.load 1 false) [t 3],
 o 5 .lenS [t 4],
 o 6 (.bin .leq) [t 5, i 100],
 m 7 6,
 y 8 7 (.faddr 2) [t 1],
 y 9 7 (.load 1 false) [t 8],
 y 10 7 .lenL [t 9],
 y 11 7 (.bin .leq) [t 10, i 400],
 o 12 .pick [t 7, t 11, b false],
 m 2 12]
def c21_1 : EC := .rg c21_1l false
@[simp] theorem c21_1e : Rg c21_1 c21_1l false := rgE _ _
def c21_2 : EC := .sq c21_1 .rt
@[simp] theorem c21_2e : Sq c21_2 c21_1 .rt := sqE _ _
def c21_3 : EC := .sq c21_0 c21_2
@[simp] theorem c21_3e : Sq c21_3 c21_0 c21_2 := sqE _ _
def c_tallystoneref34_Few_21 : EC := c21_3
theorem k_21 : ecF Tryd.prog 21 = some (13, c_tallystoneref34_Few_21, [.tm 2]) := by kernel_rfl

/-- tallystone/tallystonelaw34.Own -/
@[simp] def c22_0l : List EO := [o 1 .box [t 0],
 o 2 (.alloc [.t (.str []), .t (.bool false), .snil]) []]
def c22_0 : EC := .rg c22_0l false
@[simp] theorem c22_0e : Rg c22_0 c22_0l false := rgE _ _
@[simp] def c22_1l : List EO := [o 5 (.faddr 0) [t 1],
 o 6 (.load 1 false) [t 5],
 o 7 (.faddr 1) [t 1],
 o 8 (.load 1 false) [t 7],
 o 9 (.build [.t (.str []), .t (.bool false), .snil] [(0, 1), (1, 1)]) [t 6, t 8],
 o 3 (.alloc [.t (.str []), .t (.bool false), .snil]) [],
 u (.store 3) [t 3, t 9]]
def c22_1 : EC := .rg c22_1l false
@[simp] theorem c22_1e : Rg c22_1 c22_1l false := rgE _ _
@[simp] def c22_2l : List EO := [o 4 .mv [i 0]]
def c22_2 : EC := .rg c22_2l false
@[simp] theorem c22_2e : Rg c22_2 c22_2l false := rgE _ _
@[simp] def c22_3l : List EO := [m 10 4,
 o 11 (.faddr 2) [t 1],
 o 12 (.load 1 false) [t 11],
 o 13 .lenL [t 12],
 o 14 (.bin .lss) [t 10, t 13]]
def c22_3 : EC := .rg c22_3l false
@[simp] theorem c22_3e : Rg c22_3 c22_3l false := rgE _ _
def c22_4 : EC := .cd (t 14) .skip (.ex 0)
@[simp] theorem c22_4e : Cd c22_4 (t 14) .skip (.ex 0) := cdE _ _ _
def c22_5 : EC := .sq c22_3 c22_4
@[simp] theorem c22_5e : Sq c22_5 c22_3 c22_4 := sqE _ _
@[simp] def c22_6l : List EO := [o 17 (.faddr 2) [t 3],
 o 18 (.load 1 false) [t 17],
 o 19 (.faddr 2) [t 1],
 o 20 (.load 1 false) [t 19],
 m 21 4,
 o 22 (.iaS 3) [t 20, t 21],
 o 23 (.load 3 true) [t 22],
 o 24 (.bsl 3) [t 23],
 o 25 (.app 87 3 24) [t 18, t 24],
 o 26 (.faddr 2) [t 3],
 u (.store 1) [t 26, t 25]]
def c22_6 : EC := .rg c22_6l true
@[simp] theorem c22_6e : Rg c22_6 c22_6l true := rgE _ _
def c22_7 : EC := .bk 1 c22_6
@[simp] theorem c22_7e : Bk c22_7 1 c22_6 := bkE _ _
@[simp] def c22_8l : List EO := [m 15 4,
 o 16 (.bin .add) [t 15, i 1],
 m 4 16]
def c22_8 : EC := .rg c22_8l false
@[simp] theorem c22_8e : Rg c22_8 c22_8l false := rgE _ _
def c22_9 : EC := .sq c22_7 c22_8
@[simp] theorem c22_9e : Sq c22_9 c22_7 c22_8 := sqE _ _
def c22_10 : EC := .sq c22_5 c22_9
@[simp] theorem c22_10e : Sq c22_10 c22_5 c22_9 := sqE _ _
def c22_11 : EC := .bk 0 (.lp c22_10)
@[simp] theorem c22_11e : Bk c22_11 0 (.lp c22_10) := bkE _ _
def c22_12 : EC := .sq c22_2 c22_11
@[simp] theorem c22_12e : Sq c22_12 c22_2 c22_11 := sqE _ _
@[simp] def c22_13l : List EO := [o 27 (.load 3 true) [t 3],
 u (.store 3) [t 2, t 27]]
def c22_13 : EC := .rg c22_13l false
@[simp] theorem c22_13e : Rg c22_13 c22_13l false := rgE _ _
def c22_14 : EC := .sq c22_13 .rt
@[simp] theorem c22_14e : Sq c22_14 c22_13 .rt := sqE _ _
def c22_15 : EC := .sq c22_12 c22_14
@[simp] theorem c22_15e : Sq c22_15 c22_12 c22_14 := sqE _ _
def c22_16 : EC := .sq c22_1 c22_15
@[simp] theorem c22_16e : Sq c22_16 c22_1 c22_15 := sqE _ _
def c22_17 : EC := .sq c22_0 c22_16
@[simp] theorem c22_17e : Sq c22_17 c22_0 c22_16 := sqE _ _
def c_tallystonelaw34_Own_22 : EC := c22_17
theorem k_22 : ecF Tryd.prog 22 = some (28, c_tallystonelaw34_Own_22, [.ce 2 3 true]) := by kernel_rfl

/-- tallystone/tallystonelaw34.Own, with slices that grow in boxes -/
@[simp] def b22_0l : List EO := [o 1 .box [t 0],
 o 2 (.alloc [.t (.str []), .t (.bool false), .snil]) []]
def b22_0 : EC := .rg b22_0l false
@[simp] theorem b22_0e : Rg b22_0 b22_0l false := rgE _ _
@[simp] def b22_1l : List EO := [o 5 (.faddr 0) [t 1],
 o 6 (.load 1 false) [t 5],
 o 7 (.faddr 1) [t 1],
 o 8 (.load 1 false) [t 7],
 o 9 (.build [.t (.str []), .t (.bool false), .snil] [(0, 1), (1, 1)]) [t 6, t 8],
 o 3 (.alloc [.t (.str []), .t (.bool false), .snil]) [],
 u (.store 3) [t 3, t 9]]
def b22_1 : EC := .rg b22_1l false
@[simp] theorem b22_1e : Rg b22_1 b22_1l false := rgE _ _
@[simp] def b22_2l : List EO := [o 4 .mv [i 0]]
def b22_2 : EC := .rg b22_2l false
@[simp] theorem b22_2e : Rg b22_2 b22_2l false := rgE _ _
@[simp] def b22_3l : List EO := [m 10 4,
 o 11 (.faddr 2) [t 1],
 o 12 (.load 1 false) [t 11],
 o 13 .lenL [t 12],
 o 14 (.bin .lss) [t 10, t 13]]
def b22_3 : EC := .rg b22_3l false
@[simp] theorem b22_3e : Rg b22_3 b22_3l false := rgE _ _
def b22_4 : EC := .cd (t 14) .skip (.ex 0)
@[simp] theorem b22_4e : Cd b22_4 (t 14) .skip (.ex 0) := cdE _ _ _
def b22_5 : EC := .sq b22_3 b22_4
@[simp] theorem b22_5e : Sq b22_5 b22_3 b22_4 := sqE _ _
@[simp] def b22_6l : List EO := [o 17 (.faddr 2) [t 3],
 o 18 (.load 1 false) [t 17],
 o 19 (.faddr 2) [t 1],
 o 20 (.load 1 false) [t 19],
 m 21 4,
 o 22 (.iaS 3) [t 20, t 21],
 o 23 (.load 3 true) [t 22],
 o 24 (.bsl 3) [t 23],
 o 25 (.appB 87 3 24) [t 18, t 24],
 o 26 (.faddr 2) [t 3],
 u (.store 1) [t 26, t 25]]
def b22_6 : EC := .rg b22_6l true
@[simp] theorem b22_6e : Rg b22_6 b22_6l true := rgE _ _
def b22_7 : EC := .bk 1 b22_6
@[simp] theorem b22_7e : Bk b22_7 1 b22_6 := bkE _ _
@[simp] def b22_8l : List EO := [m 15 4,
 o 16 (.bin .add) [t 15, i 1],
 m 4 16]
def b22_8 : EC := .rg b22_8l false
@[simp] theorem b22_8e : Rg b22_8 b22_8l false := rgE _ _
def b22_9 : EC := .sq b22_7 b22_8
@[simp] theorem b22_9e : Sq b22_9 b22_7 b22_8 := sqE _ _
def b22_10 : EC := .sq b22_5 b22_9
@[simp] theorem b22_10e : Sq b22_10 b22_5 b22_9 := sqE _ _
def b22_11 : EC := .bk 0 (.lp b22_10)
@[simp] theorem b22_11e : Bk b22_11 0 (.lp b22_10) := bkE _ _
def b22_12 : EC := .sq b22_2 b22_11
@[simp] theorem b22_12e : Sq b22_12 b22_2 b22_11 := sqE _ _
@[simp] def b22_13l : List EO := [o 27 (.load 3 true) [t 3],
 u (.store 3) [t 2, t 27]]
def b22_13 : EC := .rg b22_13l false
@[simp] theorem b22_13e : Rg b22_13 b22_13l false := rgE _ _
def b22_14 : EC := .sq b22_13 .rt
@[simp] theorem b22_14e : Sq b22_14 b22_13 .rt := sqE _ _
def b22_15 : EC := .sq b22_12 b22_14
@[simp] theorem b22_15e : Sq b22_15 b22_12 b22_14 := sqE _ _
def b22_16 : EC := .sq b22_1 b22_15
@[simp] theorem b22_16e : Sq b22_16 b22_1 b22_15 := sqE _ _
def b22_17 : EC := .sq b22_0 b22_16
@[simp] theorem b22_17e : Sq b22_17 b22_0 b22_16 := sqE _ _
def b_tallystonelaw34_Own_22 : EC := b22_17
theorem kb_22 : ecB Tryd.prog 22 = some (28, b_tallystonelaw34_Own_22, [.ce 2 3 true]) := by kernel_rfl

/-- tallystone/compile.Size -/
@[simp] def c23_0l : List EO := [o 1 .box [t 0],
 o 2 .mv [i 0],
 o 3 .mv [i 0]]
def c23_0 : EC := .rg c23_0l false
@[simp] theorem c23_0e : Rg c23_0 c23_0l false := rgE _ _
@[simp] def c23_1l : List EO := [o 7 (.load 3 true) [t 1],
 o 8 (.call 55) [t 7],
 m 6 8,
 o 9 (.ext 0) [t 6],
 o 10 (.ext 1) [t 6],
 m 4 9,
 m 5 10]
def c23_1 : EC := .rg c23_1l false
@[simp] theorem c23_1e : Rg c23_1 c23_1l false := rgE _ _
@[simp] def c23_2l : List EO := [m 11 5,
 o 12 (.un .not) [t 11]]
def c23_2 : EC := .rg c23_2l false
@[simp] theorem c23_2e : Rg c23_2 c23_2l false := rgE _ _
@[simp] def c23_3l : List EO := [o 2 .mv [i 0],
 o 3 .mv [i 1]]
def c23_3 : EC := .rg c23_3l false
@[simp] theorem c23_3e : Rg c23_3 c23_3l false := rgE _ _
def c23_4 : EC := .sq c23_3 .rt
@[simp] theorem c23_4e : Sq c23_4 c23_3 .rt := sqE _ _
def c23_5 : EC := .cd (t 12) c23_4 .skip
@[simp] theorem c23_5e : Cd c23_5 (t 12) c23_4 .skip := cdE _ _ _
def c23_6 : EC := .sq c23_2 c23_5
@[simp] theorem c23_6e : Sq c23_6 c23_2 c23_5 := sqE _ _
@[simp] def c23_7l : List EO := [m 13 4,
 m 2 13,
 o 3 .mv [i 0]]
def c23_7 : EC := .rg c23_7l false
@[simp] theorem c23_7e : Rg c23_7 c23_7l false := rgE _ _
def c23_8 : EC := .sq c23_7 .rt
@[simp] theorem c23_8e : Sq c23_8 c23_7 .rt := sqE _ _
def c23_9 : EC := .sq c23_6 c23_8
@[simp] theorem c23_9e : Sq c23_9 c23_6 c23_8 := sqE _ _
def c23_10 : EC := .sq c23_1 c23_9
@[simp] theorem c23_10e : Sq c23_10 c23_1 c23_9 := sqE _ _
def c23_11 : EC := .sq c23_0 c23_10
@[simp] theorem c23_11e : Sq c23_11 c23_0 c23_10 := sqE _ _
def c_compile_Size_23 : EC := c23_11
theorem k_23 : ecF Tryd.prog 23 = some (14, c_compile_Size_23, [.tm 2, .tm 3]) := by kernel_rfl

/-- tallystone/tallystoneref34.Size -/
@[simp] def c24_0l : List EO := [o 1 .box [t 0],
 o 2 .mv [i 0],
 o 3 .mv [i 0]]
def c24_0 : EC := .rg c24_0l false
@[simp] theorem c24_0e : Rg c24_0 c24_0l false := rgE _ _
@[simp] def c24_1l : List EO := [o 7 (.load 3 true) [t 1],
 o 8 (.call 56) [t 7],
 m 6 8,
 o 9 (.ext 0) [t 6],
 o 10 (.ext 1) [t 6],
 m 4 9,
 m 5 10]
def c24_1 : EC := .rg c24_1l false
@[simp] theorem c24_1e : Rg c24_1 c24_1l false := rgE _ _
@[simp] def c24_2l : List EO := [m 11 5,
 o 12 (.un .not) [t 11]]
def c24_2 : EC := .rg c24_2l false
@[simp] theorem c24_2e : Rg c24_2 c24_2l false := rgE _ _
@[simp] def c24_3l : List EO := [o 2 .mv [i 0],
 o 3 .mv [i 1]]
def c24_3 : EC := .rg c24_3l false
@[simp] theorem c24_3e : Rg c24_3 c24_3l false := rgE _ _
def c24_4 : EC := .sq c24_3 .rt
@[simp] theorem c24_4e : Sq c24_4 c24_3 .rt := sqE _ _
def c24_5 : EC := .cd (t 12) c24_4 .skip
@[simp] theorem c24_5e : Cd c24_5 (t 12) c24_4 .skip := cdE _ _ _
def c24_6 : EC := .sq c24_2 c24_5
@[simp] theorem c24_6e : Sq c24_6 c24_2 c24_5 := sqE _ _
@[simp] def c24_7l : List EO := [m 13 4,
 m 2 13,
 o 3 .mv [i 0]]
def c24_7 : EC := .rg c24_7l false
@[simp] theorem c24_7e : Rg c24_7 c24_7l false := rgE _ _
def c24_8 : EC := .sq c24_7 .rt
@[simp] theorem c24_8e : Sq c24_8 c24_7 .rt := sqE _ _
def c24_9 : EC := .sq c24_6 c24_8
@[simp] theorem c24_9e : Sq c24_9 c24_6 c24_8 := sqE _ _
def c24_10 : EC := .sq c24_1 c24_9
@[simp] theorem c24_10e : Sq c24_10 c24_1 c24_9 := sqE _ _
def c24_11 : EC := .sq c24_0 c24_10
@[simp] theorem c24_11e : Sq c24_11 c24_0 c24_10 := sqE _ _
def c_tallystoneref34_Size_24 : EC := c24_11
theorem k_24 : ecF Tryd.prog 24 = some (14, c_tallystoneref34_Size_24, [.tm 2, .tm 3]) := by kernel_rfl

/-- tallystone/compile.Fold -/
@[simp] def c25_0l : List EO := [o 1 .box [t 0],
 o 2 (.alloc [.t (.str []), .t (.bool false), .snil]) [],
 o 3 .mv [i 0]]
def c25_0 : EC := .rg c25_0l false
@[simp] theorem c25_0e : Rg c25_0 c25_0l false := rgE _ _
@[simp] def c25_1l : List EO := [o 15 (.load 3 true) [t 1],
 o 16 (.call 27) [t 15],
 o 17 (.un .not) [t 16]]
def c25_1 : EC := .rg c25_1l false
@[simp] theorem c25_1e : Rg c25_1 c25_1l false := rgE _ _
@[simp] def c25_2l : List EO := [o 18 (.build [.t (.str []), .t (.bool false), .snil] []) [],
 u (.store 3) [t 2, t 18],
 o 3 .mv [i 1]]
def c25_2 : EC := .rg c25_2l false
@[simp] theorem c25_2e : Rg c25_2 c25_2l false := rgE _ _
def c25_3 : EC := .sq c25_2 .rt
@[simp] theorem c25_3e : Sq c25_3 c25_2 .rt := sqE _ _
def c25_4 : EC := .cd (t 17) c25_3 .skip
@[simp] theorem c25_4e : Cd c25_4 (t 17) c25_3 .skip := cdE _ _ _
def c25_5 : EC := .sq c25_1 c25_4
@[simp] theorem c25_5e : Sq c25_5 c25_1 c25_4 := sqE _ _
@[simp] def c25_6l : List EO := [o 19 (.call 57) [],
 o 4 (.alloc [.t (.str []), .t (.int .i64 0), .t (.int .i64 0), .t (.int .i64 0), .t (.str []), .t (.int .i64 0), .t (.int .i64 0), .t (.int .i64 0), .t (.str []), .t (.int .i64 0), .t (.int .i64 0), .t (.int .i64 0), .t (.str []), .t (.int .i64 0), .t (.int .i64 0), .t (.int .i64 0), .t (.str []), .t (.int .i64 0), .t (.int .i64 0), .t (.int .i64 0), .t (.str []), .t (.int .i64 0), .t (.int .i64 0), .t (.int .i64 0), .t (.str []), .t (.int .i64 0), .t (.int .i64 0), .t (.int .i64 0), .t (.str []), .t (.int .i64 0), .t (.int .i64 0), .t (.int .i64 0), .t (.str []), .t (.int .i64 0), .t (.int .i64 0), .t (.int .i64 0), .t (.str []), .t (.int .i64 0), .t (.int .i64 0), .t (.int .i64 0), .t (.str []), .t (.int .i64 0), .t (.int .i64 0), .t (.int .i64 0), .t (.str []), .t (.int .i64 0), .t (.int .i64 0), .t (.int .i64 0), .t (.str []), .t (.int .i64 0), .t (.int .i64 0), .t (.int .i64 0), .t (.str []), .t (.int .i64 0), .t (.int .i64 0), .t (.int .i64 0), .t (.str []), .t (.int .i64 0), .t (.int .i64 0), .t (.int .i64 0), .t (.str []), .t (.int .i64 0), .t (.int .i64 0), .t (.int .i64 0), .t (.str []), .t (.int .i64 0), .t (.int .i64 0), .t (.int .i64 0), .t (.str []), .t (.int .i64 0), .t (.int .i64 0), .t (.int .i64 0), .t (.str []), .t (.int .i64 0), .t (.int .i64 0), .t (.int .i64 0), .t (.str []), .t (.int .i64 0), .t (.int .i64 0), .t (.int .i64 0), .t (.str []), .t (.int .i64 0), .t (.int .i64 0), .t (.int .i64 0), .t (.str []), .t (.int .i64 0), .t (.int .i64 0), .t (.int .i64 0), .t (.str []), .t (.int .i64 0), .t (.int .i64 0), .t (.int .i64 0), .t (.str []), .t (.int .i64 0), .t (.int .i64 0), .t (.int .i64 0), .t (.str []), .t (.int .i64 0), .t (.int .i64 0), .t (.int .i64 0), .t (.str []), .t (.int .i64 0), .t (.int .i64 0), .t (.int .i64 0), .t (.str []), .t (.int .i64 0), .t (.int .i64 0), .t (.int .i64 0)]) [],
 u (.store 108) [t 4, t 19]]
def c25_6 : EC := .rg c25_6l false
@[simp] theorem c25_6e : Rg c25_6 c25_6l false := rgE _ _
@[simp] def c25_7l : List EO := [o 20 (.faddr 2) [t 1],
 o 21 (.load 1 false) [t 20],
 o 22 .lenL [t 21],
 o 23 (.mks 87 3 24 [.t (.int .i64 0), .t (.int .i64 0), .t (.int .i64 0)]) [i 0, t 22],
 m 5 23]
def c25_7 : EC := .rg c25_7l false
@[simp] theorem c25_7e : Rg c25_7 c25_7l false := rgE _ _
@[simp] def c25_8l : List EO := [o 24 (.faddr 2) [t 1],
 o 25 (.load 1 false) [t 24],
 o 26 .lenL [t 25],
 o 27 .mv [i 0]]
def c25_8 : EC := .rg c25_8l false
@[simp] theorem c25_8e : Rg c25_8 c25_8l false := rgE _ _
@[simp] def c25_9l : List EO := [o 28 (.bin .lss) [t 27, t 26]]
def c25_9 : EC := .rg c25_9l false
@[simp] theorem c25_9e : Rg c25_9 c25_9l false := rgE _ _
def c25_10 : EC := .cd (t 28) .skip (.ex 0)
@[simp] theorem c25_10e : Cd c25_10 (t 28) .skip (.ex 0) := cdE _ _ _
@[simp] def c25_11l : List EO := [o 29 (.iaS 3) [t 25, t 27],
 o 30 (.load 3 true) [t 29],
 o 7 (.alloc [.t (.int .i64 0), .t (.int .i64 0), .t (.int .i64 0)]) [],
 u (.store 3) [t 7, t 30]]
def c25_11 : EC := .rg c25_11l false
@[simp] theorem c25_11e : Rg c25_11 c25_11l false := rgE _ _
@[simp] def c25_12l : List EO := [m 31 5,
 o 32 (.load 3 true) [t 7],
 o 33 (.bsl 3) [t 32],
 o 34 (.app 87 3 24) [t 31, t 33],
 m 5 34]
def c25_12 : EC := .rg c25_12l false
@[simp] theorem c25_12e : Rg c25_12 c25_12l false := rgE _ _
@[simp] def c25_13l : List EO := [o 35 (.faddr 0) [t 7],
 o 36 (.load 1 false) [t 35],
 o 37 (.iaA 27 4) [t 4, t 36],
 o 38 (.faddr 1) [t 37],
 o 39 (.load 1 false) [t 38],
 m 40 5,
 o 41 .lenL [t 40],
 o 42 (.bin .sub) [t 41, i 1],
 m 8 39,
 m 9 42]
def c25_13 : EC := .rg c25_13l false
@[simp] theorem c25_13e : Rg c25_13 c25_13l false := rgE _ _
@[simp] def c25_14l : List EO := [o 43 (.faddr 0) [t 7],
 o 44 (.load 1 false) [t 43],
 o 45 (.iaA 27 4) [t 4, t 44],
 o 46 (.faddr 2) [t 45],
 o 47 (.load 1 false) [t 46],
 o 48 (.bin .eql) [t 47, i 0],
 m 49 48,
 n 50 49 .mv [t 8],
 n 51 49 (.bin .eql) [t 50, i 0],
 o 52 .pick [t 49, b true, t 51],
 m 53 52,
 n 54 53 .mv [t 9],
 n 55 53 .mv [t 8],
 n 56 53 (.bin .lss) [t 54, t 55],
 o 57 .pick [t 53, b true, t 56]]
def c25_14 : EC := .rg c25_14l false
@[simp] theorem c25_14e : Rg c25_14 c25_14l false := rgE _ _
def c25_15 : EC := .cd (t 57) (.ex 1) .skip
@[simp] theorem c25_15e : Cd c25_15 (t 57) (.ex 1) .skip := cdE _ _ _
def c25_16 : EC := .sq c25_14 c25_15
@[simp] theorem c25_16e : Sq c25_16 c25_14 c25_15 := sqE _ _
@[simp] def c25_17l : List EO := [m 58 5,
 m 59 9,
 m 60 8,
 o 61 (.bin .sub) [t 59, t 60],
 m 62 9,
 m 63 9,
 o 64 (.slL 3 true true true) [t 58, t 61, t 62, t 63],
 m 10 64]
def c25_17 : EC := .rg c25_17l false
@[simp] theorem c25_17e : Rg c25_17 c25_17l false := rgE _ _
@[simp] def c25_18l : List EO := [m 65 10,
 o 66 (.call 58) [t 65, c (.fn (.func 59) [])]]
def c25_18 : EC := .rg c25_18l false
@[simp] theorem c25_18e : Rg c25_18 c25_18l false := rgE _ _
def c25_19 : EC := .cd (t 66) (.ex 1) .skip
@[simp] theorem c25_19e : Cd c25_19 (t 66) (.ex 1) .skip := cdE _ _ _
def c25_20 : EC := .sq c25_18 c25_19
@[simp] theorem c25_20e : Sq c25_20 c25_18 c25_19 := sqE _ _
@[simp] def c25_21l : List EO := [m 67 10,
 o 68 (.iaS 3) [t 67, i 0],
 o 69 (.faddr 1) [t 68],
 o 70 (.load 1 false) [t 69],
 m 11 70,
 o 12 .mv [i 0]]
def c25_21 : EC := .rg c25_21l false
@[simp] theorem c25_21e : Rg c25_21 c25_21l false := rgE _ _
@[simp] def c25_22l : List EO := [m 71 8,
 o 72 (.bin .eql) [t 71, i 2]]
def c25_22 : EC := .rg c25_22l false
@[simp] theorem c25_22e : Rg c25_22 c25_22l false := rgE _ _
@[simp] def c25_23l : List EO := [m 73 10,
 o 74 (.iaS 3) [t 73, i 1],
 o 75 (.faddr 1) [t 74],
 o 76 (.load 1 false) [t 75],
 m 12 76]
def c25_23 : EC := .rg c25_23l false
@[simp] theorem c25_23e : Rg c25_23 c25_23l false := rgE _ _
def c25_24 : EC := .cd (t 72) c25_23 .skip
@[simp] theorem c25_24e : Cd c25_24 (t 72) c25_23 .skip := cdE _ _ _
def c25_25 : EC := .sq c25_22 c25_24
@[simp] theorem c25_25e : Sq c25_25 c25_22 c25_24 := sqE _ _
@[simp] def c25_26l : List EO := [o 78 (.faddr 0) [t 7],
 o 79 (.load 1 false) [t 78],
 o 80 (.faddr 1) [t 7],
 o 81 (.load 1 false) [t 80],
 m 82 11,
 m 83 12,
 o 84 (.call 13) [t 79, t 81, t 82, t 83],
 m 77 84,
 o 85 (.ext 0) [t 77],
 o 86 (.ext 1) [t 77],
 m 13 85,
 m 14 86]
def c25_26 : EC := .rg c25_26l false
@[simp] theorem c25_26e : Rg c25_26 c25_26l false := rgE _ _
@[simp] def c25_27l : List EO := [m 87 14]
def c25_27 : EC := .rg c25_27l false
@[simp] theorem c25_27e : Rg c25_27 c25_27l false := rgE _ _
@[simp] def c25_28l : List EO := [m 88 5,
 m 89 9,
 m 90 8,
 o 91 (.bin .sub) [t 89, t 90],
 o 92 (.slL 3 false true false) [t 88, t 91],
 m 93 13,
 o 94 (.build [.t (.int .i64 0), .t (.int .i64 0), .t (.int .i64 0)] [(0, 1), (1, 1), (2, 1)]) [i 1, t 93, i 0],
 o 95 (.bsl 3) [t 94],
 o 96 (.app 87 3 24) [t 92, t 95],
 m 5 96]
def c25_28 : EC := .rg c25_28l false
@[simp] theorem c25_28e : Rg c25_28 c25_28l false := rgE _ _
def c25_29 : EC := .cd (t 87) c25_28 .skip
@[simp] theorem c25_29e : Cd c25_29 (t 87) c25_28 .skip := cdE _ _ _
def c25_30 : EC := .sq c25_27 c25_29
@[simp] theorem c25_30e : Sq c25_30 c25_27 c25_29 := sqE _ _
def c25_31 : EC := .sq c25_26 c25_30
@[simp] theorem c25_31e : Sq c25_31 c25_26 c25_30 := sqE _ _
def c25_32 : EC := .sq c25_25 c25_31
@[simp] theorem c25_32e : Sq c25_32 c25_25 c25_31 := sqE _ _
def c25_33 : EC := .sq c25_21 c25_32
@[simp] theorem c25_33e : Sq c25_33 c25_21 c25_32 := sqE _ _
def c25_34 : EC := .sq c25_20 c25_33
@[simp] theorem c25_34e : Sq c25_34 c25_20 c25_33 := sqE _ _
def c25_35 : EC := .sq c25_17 c25_34
@[simp] theorem c25_35e : Sq c25_35 c25_17 c25_34 := sqE _ _
def c25_36 : EC := .sq c25_16 c25_35
@[simp] theorem c25_36e : Sq c25_36 c25_16 c25_35 := sqE _ _
def c25_37 : EC := .sq c25_13 c25_36
@[simp] theorem c25_37e : Sq c25_37 c25_13 c25_36 := sqE _ _
def c25_38 : EC := .sq c25_12 c25_37
@[simp] theorem c25_38e : Sq c25_38 c25_12 c25_37 := sqE _ _
def c25_39 : EC := .sq c25_11 c25_38
@[simp] theorem c25_39e : Sq c25_39 c25_11 c25_38 := sqE _ _
def c25_40 : EC := .bk 1 c25_39
@[simp] theorem c25_40e : Bk c25_40 1 c25_39 := bkE _ _
@[simp] def c25_41l : List EO := [o 97 (.bin .add) [t 27, i 1],
 m 27 97]
def c25_41 : EC := .rg c25_41l false
@[simp] theorem c25_41e : Rg c25_41 c25_41l false := rgE _ _
def c25_42 : EC := .sq c25_40 c25_41
@[simp] theorem c25_42e : Sq c25_42 c25_40 c25_41 := sqE _ _
def c25_43 : EC := .sq c25_10 c25_42
@[simp] theorem c25_43e : Sq c25_43 c25_10 c25_42 := sqE _ _
def c25_44 : EC := .sq c25_9 c25_43
@[simp] theorem c25_44e : Sq c25_44 c25_9 c25_43 := sqE _ _
def c25_45 : EC := .bk 0 (.lp c25_44)
@[simp] theorem c25_45e : Bk c25_45 0 (.lp c25_44) := bkE _ _
def c25_46 : EC := .sq c25_8 c25_45
@[simp] theorem c25_46e : Sq c25_46 c25_8 c25_45 := sqE _ _
@[simp] def c25_47l : List EO := [o 98 (.faddr 0) [t 1],
 o 99 (.load 1 false) [t 98],
 o 100 (.faddr 1) [t 1],
 o 101 (.load 1 false) [t 100],
 m 102 5,
 o 103 (.build [.t (.str []), .t (.bool false), .snil] [(0, 1), (1, 1), (2, 1)]) [t 99, t 101, t 102],
 u (.store 3) [t 2, t 103],
 o 3 .mv [i 0]]
def c25_47 : EC := .rg c25_47l false
@[simp] theorem c25_47e : Rg c25_47 c25_47l false := rgE _ _
def c25_48 : EC := .sq c25_47 .rt
@[simp] theorem c25_48e : Sq c25_48 c25_47 .rt := sqE _ _
def c25_49 : EC := .sq c25_46 c25_48
@[simp] theorem c25_49e : Sq c25_49 c25_46 c25_48 := sqE _ _
def c25_50 : EC := .sq c25_7 c25_49
@[simp] theorem c25_50e : Sq c25_50 c25_7 c25_49 := sqE _ _
def c25_51 : EC := .sq c25_6 c25_50
@[simp] theorem c25_51e : Sq c25_51 c25_6 c25_50 := sqE _ _
def c25_52 : EC := .sq c25_5 c25_51
@[simp] theorem c25_52e : Sq c25_52 c25_5 c25_51 := sqE _ _
def c25_53 : EC := .sq c25_0 c25_52
@[simp] theorem c25_53e : Sq c25_53 c25_0 c25_52 := sqE _ _
def c_compile_Fold_25 : EC := c25_53
theorem k_25 : ecF Tryd.prog 25 = some (104, c_compile_Fold_25, [.ce 2 3 true, .tm 3]) := by kernel_rfl

/-- tallystone/compile.Fold, with slices that grow in boxes -/
@[simp] def b25_0l : List EO := [o 1 .box [t 0],
 o 2 (.alloc [.t (.str []), .t (.bool false), .snil]) [],
 o 3 .mv [i 0]]
def b25_0 : EC := .rg b25_0l false
@[simp] theorem b25_0e : Rg b25_0 b25_0l false := rgE _ _
@[simp] def b25_1l : List EO := [o 15 (.load 3 true) [t 1],
 o 16 (.call 27) [t 15],
 o 17 (.un .not) [t 16]]
def b25_1 : EC := .rg b25_1l false
@[simp] theorem b25_1e : Rg b25_1 b25_1l false := rgE _ _
@[simp] def b25_2l : List EO := [o 18 (.build [.t (.str []), .t (.bool false), .snil] []) [],
 u (.store 3) [t 2, t 18],
 o 3 .mv [i 1]]
def b25_2 : EC := .rg b25_2l false
@[simp] theorem b25_2e : Rg b25_2 b25_2l false := rgE _ _
def b25_3 : EC := .sq b25_2 .rt
@[simp] theorem b25_3e : Sq b25_3 b25_2 .rt := sqE _ _
def b25_4 : EC := .cd (t 17) b25_3 .skip
@[simp] theorem b25_4e : Cd b25_4 (t 17) b25_3 .skip := cdE _ _ _
def b25_5 : EC := .sq b25_1 b25_4
@[simp] theorem b25_5e : Sq b25_5 b25_1 b25_4 := sqE _ _
@[simp] def b25_6l : List EO := [o 19 (.call 57) [],
 o 4 (.alloc [.t (.str []), .t (.int .i64 0), .t (.int .i64 0), .t (.int .i64 0), .t (.str []), .t (.int .i64 0), .t (.int .i64 0), .t (.int .i64 0), .t (.str []), .t (.int .i64 0), .t (.int .i64 0), .t (.int .i64 0), .t (.str []), .t (.int .i64 0), .t (.int .i64 0), .t (.int .i64 0), .t (.str []), .t (.int .i64 0), .t (.int .i64 0), .t (.int .i64 0), .t (.str []), .t (.int .i64 0), .t (.int .i64 0), .t (.int .i64 0), .t (.str []), .t (.int .i64 0), .t (.int .i64 0), .t (.int .i64 0), .t (.str []), .t (.int .i64 0), .t (.int .i64 0), .t (.int .i64 0), .t (.str []), .t (.int .i64 0), .t (.int .i64 0), .t (.int .i64 0), .t (.str []), .t (.int .i64 0), .t (.int .i64 0), .t (.int .i64 0), .t (.str []), .t (.int .i64 0), .t (.int .i64 0), .t (.int .i64 0), .t (.str []), .t (.int .i64 0), .t (.int .i64 0), .t (.int .i64 0), .t (.str []), .t (.int .i64 0), .t (.int .i64 0), .t (.int .i64 0), .t (.str []), .t (.int .i64 0), .t (.int .i64 0), .t (.int .i64 0), .t (.str []), .t (.int .i64 0), .t (.int .i64 0), .t (.int .i64 0), .t (.str []), .t (.int .i64 0), .t (.int .i64 0), .t (.int .i64 0), .t (.str []), .t (.int .i64 0), .t (.int .i64 0), .t (.int .i64 0), .t (.str []), .t (.int .i64 0), .t (.int .i64 0), .t (.int .i64 0), .t (.str []), .t (.int .i64 0), .t (.int .i64 0), .t (.int .i64 0), .t (.str []), .t (.int .i64 0), .t (.int .i64 0), .t (.int .i64 0), .t (.str []), .t (.int .i64 0), .t (.int .i64 0), .t (.int .i64 0), .t (.str []), .t (.int .i64 0), .t (.int .i64 0), .t (.int .i64 0), .t (.str []), .t (.int .i64 0), .t (.int .i64 0), .t (.int .i64 0), .t (.str []), .t (.int .i64 0), .t (.int .i64 0), .t (.int .i64 0), .t (.str []), .t (.int .i64 0), .t (.int .i64 0), .t (.int .i64 0), .t (.str []), .t (.int .i64 0), .t (.int .i64 0), .t (.int .i64 0), .t (.str []), .t (.int .i64 0), .t (.int .i64 0), .t (.int .i64 0)]) [],
 u (.store 108) [t 4, t 19]]
def b25_6 : EC := .rg b25_6l false
@[simp] theorem b25_6e : Rg b25_6 b25_6l false := rgE _ _
@[simp] def b25_7l : List EO := [o 20 (.faddr 2) [t 1],
 o 21 (.load 1 false) [t 20],
 o 22 .lenL [t 21],
 o 23 (.mks 87 3 24 [.t (.int .i64 0), .t (.int .i64 0), .t (.int .i64 0)]) [i 0, t 22],
 m 5 23]
def b25_7 : EC := .rg b25_7l false
@[simp] theorem b25_7e : Rg b25_7 b25_7l false := rgE _ _
@[simp] def b25_8l : List EO := [o 24 (.faddr 2) [t 1],
 o 25 (.load 1 false) [t 24],
 o 26 .lenL [t 25],
 o 27 .mv [i 0]]
def b25_8 : EC := .rg b25_8l false
@[simp] theorem b25_8e : Rg b25_8 b25_8l false := rgE _ _
@[simp] def b25_9l : List EO := [o 28 (.bin .lss) [t 27, t 26]]
def b25_9 : EC := .rg b25_9l false
@[simp] theorem b25_9e : Rg b25_9 b25_9l false := rgE _ _
def b25_10 : EC := .cd (t 28) .skip (.ex 0)
@[simp] theorem b25_10e : Cd b25_10 (t 28) .skip (.ex 0) := cdE _ _ _
@[simp] def b25_11l : List EO := [o 29 (.iaS 3) [t 25, t 27],
 o 30 (.load 3 true) [t 29],
 o 7 (.alloc [.t (.int .i64 0), .t (.int .i64 0), .t (.int .i64 0)]) [],
 u (.store 3) [t 7, t 30]]
def b25_11 : EC := .rg b25_11l false
@[simp] theorem b25_11e : Rg b25_11 b25_11l false := rgE _ _
@[simp] def b25_12l : List EO := [m 31 5,
 o 32 (.load 3 true) [t 7],
 o 33 (.bsl 3) [t 32],
 o 34 (.appB 87 3 24) [t 31, t 33],
 m 5 34]
def b25_12 : EC := .rg b25_12l false
@[simp] theorem b25_12e : Rg b25_12 b25_12l false := rgE _ _
@[simp] def b25_13l : List EO := [o 35 (.faddr 0) [t 7],
 o 36 (.load 1 false) [t 35],
 o 37 (.iaA 27 4) [t 4, t 36],
 o 38 (.faddr 1) [t 37],
 o 39 (.load 1 false) [t 38],
 m 40 5,
 o 41 .lenL [t 40],
 o 42 (.bin .sub) [t 41, i 1],
 m 8 39,
 m 9 42]
def b25_13 : EC := .rg b25_13l false
@[simp] theorem b25_13e : Rg b25_13 b25_13l false := rgE _ _
@[simp] def b25_14l : List EO := [o 43 (.faddr 0) [t 7],
 o 44 (.load 1 false) [t 43],
 o 45 (.iaA 27 4) [t 4, t 44],
 o 46 (.faddr 2) [t 45],
 o 47 (.load 1 false) [t 46],
 o 48 (.bin .eql) [t 47, i 0],
 m 49 48,
 n 50 49 .mv [t 8],
 n 51 49 (.bin .eql) [t 50, i 0],
 o 52 .pick [t 49, b true, t 51],
 m 53 52,
 n 54 53 .mv [t 9],
 n 55 53 .mv [t 8],
 n 56 53 (.bin .lss) [t 54, t 55],
 o 57 .pick [t 53, b true, t 56]]
def b25_14 : EC := .rg b25_14l false
@[simp] theorem b25_14e : Rg b25_14 b25_14l false := rgE _ _
def b25_15 : EC := .cd (t 57) (.ex 1) .skip
@[simp] theorem b25_15e : Cd b25_15 (t 57) (.ex 1) .skip := cdE _ _ _
def b25_16 : EC := .sq b25_14 b25_15
@[simp] theorem b25_16e : Sq b25_16 b25_14 b25_15 := sqE _ _
@[simp] def b25_17l : List EO := [m 58 5,
 m 59 9,
 m 60 8,
 o 61 (.bin .sub) [t 59, t 60],
 m 62 9,
 m 63 9,
 o 64 (.slL 3 true true true) [t 58, t 61, t 62, t 63],
 m 10 64]
def b25_17 : EC := .rg b25_17l false
@[simp] theorem b25_17e : Rg b25_17 b25_17l false := rgE _ _
@[simp] def b25_18l : List EO := [m 65 10,
 o 66 (.call 58) [t 65, c (.fn (.func 59) [])]]
def b25_18 : EC := .rg b25_18l false
@[simp] theorem b25_18e : Rg b25_18 b25_18l false := rgE _ _
def b25_19 : EC := .cd (t 66) (.ex 1) .skip
@[simp] theorem b25_19e : Cd b25_19 (t 66) (.ex 1) .skip := cdE _ _ _
def b25_20 : EC := .sq b25_18 b25_19
@[simp] theorem b25_20e : Sq b25_20 b25_18 b25_19 := sqE _ _
@[simp] def b25_21l : List EO := [m 67 10,
 o 68 (.iaS 3) [t 67, i 0],
 o 69 (.faddr 1) [t 68],
 o 70 (.load 1 false) [t 69],
 m 11 70,
 o 12 .mv [i 0]]
def b25_21 : EC := .rg b25_21l false
@[simp] theorem b25_21e : Rg b25_21 b25_21l false := rgE _ _
@[simp] def b25_22l : List EO := [m 71 8,
 o 72 (.bin .eql) [t 71, i 2]]
def b25_22 : EC := .rg b25_22l false
@[simp] theorem b25_22e : Rg b25_22 b25_22l false := rgE _ _
@[simp] def b25_23l : List EO := [m 73 10,
 o 74 (.iaS 3) [t 73, i 1],
 o 75 (.faddr 1) [t 74],
 o 76 (.load 1 false) [t 75],
 m 12 76]
def b25_23 : EC := .rg b25_23l false
@[simp] theorem b25_23e : Rg b25_23 b25_23l false := rgE _ _
def b25_24 : EC := .cd (t 72) b25_23 .skip
@[simp] theorem b25_24e : Cd b25_24 (t 72) b25_23 .skip := cdE _ _ _
def b25_25 : EC := .sq b25_22 b25_24
@[simp] theorem b25_25e : Sq b25_25 b25_22 b25_24 := sqE _ _
@[simp] def b25_26l : List EO := [o 78 (.faddr 0) [t 7],
 o 79 (.load 1 false) [t 78],
 o 80 (.faddr 1) [t 7],
 o 81 (.load 1 false) [t 80],
 m 82 11,
 m 83 12,
 o 84 (.call 13) [t 79, t 81, t 82, t 83],
 m 77 84,
 o 85 (.ext 0) [t 77],
 o 86 (.ext 1) [t 77],
 m 13 85,
 m 14 86]
def b25_26 : EC := .rg b25_26l false
@[simp] theorem b25_26e : Rg b25_26 b25_26l false := rgE _ _
@[simp] def b25_27l : List EO := [m 87 14]
def b25_27 : EC := .rg b25_27l false
@[simp] theorem b25_27e : Rg b25_27 b25_27l false := rgE _ _
@[simp] def b25_28l : List EO := [m 88 5,
 m 89 9,
 m 90 8,
 o 91 (.bin .sub) [t 89, t 90],
 o 92 (.slL 3 false true false) [t 88, t 91],
 m 93 13,
 o 94 (.build [.t (.int .i64 0), .t (.int .i64 0), .t (.int .i64 0)] [(0, 1), (1, 1), (2, 1)]) [i 1, t 93, i 0],
 o 95 (.bsl 3) [t 94],
 o 96 (.appB 87 3 24) [t 92, t 95],
 m 5 96]
def b25_28 : EC := .rg b25_28l false
@[simp] theorem b25_28e : Rg b25_28 b25_28l false := rgE _ _
def b25_29 : EC := .cd (t 87) b25_28 .skip
@[simp] theorem b25_29e : Cd b25_29 (t 87) b25_28 .skip := cdE _ _ _
def b25_30 : EC := .sq b25_27 b25_29
@[simp] theorem b25_30e : Sq b25_30 b25_27 b25_29 := sqE _ _
def b25_31 : EC := .sq b25_26 b25_30
@[simp] theorem b25_31e : Sq b25_31 b25_26 b25_30 := sqE _ _
def b25_32 : EC := .sq b25_25 b25_31
@[simp] theorem b25_32e : Sq b25_32 b25_25 b25_31 := sqE _ _
def b25_33 : EC := .sq b25_21 b25_32
@[simp] theorem b25_33e : Sq b25_33 b25_21 b25_32 := sqE _ _
def b25_34 : EC := .sq b25_20 b25_33
@[simp] theorem b25_34e : Sq b25_34 b25_20 b25_33 := sqE _ _
def b25_35 : EC := .sq b25_17 b25_34
@[simp] theorem b25_35e : Sq b25_35 b25_17 b25_34 := sqE _ _
def b25_36 : EC := .sq b25_16 b25_35
@[simp] theorem b25_36e : Sq b25_36 b25_16 b25_35 := sqE _ _
def b25_37 : EC := .sq b25_13 b25_36
@[simp] theorem b25_37e : Sq b25_37 b25_13 b25_36 := sqE _ _
def b25_38 : EC := .sq b25_12 b25_37
@[simp] theorem b25_38e : Sq b25_38 b25_12 b25_37 := sqE _ _
def b25_39 : EC := .sq b25_11 b25_38
@[simp] theorem b25_39e : Sq b25_39 b25_11 b25_38 := sqE _ _
def b25_40 : EC := .bk 1 b25_39
@[simp] theorem b25_40e : Bk b25_40 1 b25_39 := bkE _ _
@[simp] def b25_41l : List EO := [o 97 (.bin .add) [t 27, i 1],
 m 27 97]
def b25_41 : EC := .rg b25_41l false
@[simp] theorem b25_41e : Rg b25_41 b25_41l false := rgE _ _
def b25_42 : EC := .sq b25_40 b25_41
@[simp] theorem b25_42e : Sq b25_42 b25_40 b25_41 := sqE _ _
def b25_43 : EC := .sq b25_10 b25_42
@[simp] theorem b25_43e : Sq b25_43 b25_10 b25_42 := sqE _ _
def b25_44 : EC := .sq b25_9 b25_43
@[simp] theorem b25_44e : Sq b25_44 b25_9 b25_43 := sqE _ _
def b25_45 : EC := .bk 0 (.lp b25_44)
@[simp] theorem b25_45e : Bk b25_45 0 (.lp b25_44) := bkE _ _
def b25_46 : EC := .sq b25_8 b25_45
@[simp] theorem b25_46e : Sq b25_46 b25_8 b25_45 := sqE _ _
@[simp] def b25_47l : List EO := [o 98 (.faddr 0) [t 1],
 o 99 (.load 1 false) [t 98],
 o 100 (.faddr 1) [t 1],
 o 101 (.load 1 false) [t 100],
 m 102 5,
 o 103 (.build [.t (.str []), .t (.bool false), .snil] [(0, 1), (1, 1), (2, 1)]) [t 99, t 101, t 102],
 u (.store 3) [t 2, t 103],
 o 3 .mv [i 0]]
def b25_47 : EC := .rg b25_47l false
@[simp] theorem b25_47e : Rg b25_47 b25_47l false := rgE _ _
def b25_48 : EC := .sq b25_47 .rt
@[simp] theorem b25_48e : Sq b25_48 b25_47 .rt := sqE _ _
def b25_49 : EC := .sq b25_46 b25_48
@[simp] theorem b25_49e : Sq b25_49 b25_46 b25_48 := sqE _ _
def b25_50 : EC := .sq b25_7 b25_49
@[simp] theorem b25_50e : Sq b25_50 b25_7 b25_49 := sqE _ _
def b25_51 : EC := .sq b25_6 b25_50
@[simp] theorem b25_51e : Sq b25_51 b25_6 b25_50 := sqE _ _
def b25_52 : EC := .sq b25_5 b25_51
@[simp] theorem b25_52e : Sq b25_52 b25_5 b25_51 := sqE _ _
def b25_53 : EC := .sq b25_0 b25_52
@[simp] theorem b25_53e : Sq b25_53 b25_0 b25_52 := sqE _ _
def b_compile_Fold_25 : EC := b25_53
theorem kb_25 : ecB Tryd.prog 25 = some (104, b_compile_Fold_25, [.ce 2 3 true, .tm 3]) := by kernel_rfl

/-- tallystone/compile.Text -/
@[simp] def c26_0l : List EO := [o 1 .box [t 0],
 o 2 .mv [c (.t (.str []))],
 o 3 .mv [i 0]]
def c26_0 : EC := .rg c26_0l false
@[simp] theorem c26_0e : Rg c26_0 c26_0l false := rgE _ _
@[simp] def c26_1l : List EO := [o 10 (.load 3 true) [t 1],
 o 11 (.call 27) [t 10],
 o 12 (.un .not) [t 11]]
def c26_1 : EC := .rg c26_1l false
@[simp] theorem c26_1e : Rg c26_1 c26_1l false := rgE _ _
@[simp] def c26_2l : List EO := [o 2 .mv [c (.t (.str []))],
 o 3 .mv [i 1]]
def c26_2 : EC := .rg c26_2l false
@[simp] theorem c26_2e : Rg c26_2 c26_2l false := rgE _ _
def c26_3 : EC := .sq c26_2 .rt
@[simp] theorem c26_3e : Sq c26_3 c26_2 .rt := sqE _ _
def c26_4 : EC := .cd (t 12) c26_3 .skip
@[simp] theorem c26_4e : Cd c26_4 (t 12) c26_3 .skip := cdE _ _ _
def c26_5 : EC := .sq c26_1 c26_4
@[simp] theorem c26_5e : Sq c26_5 c26_1 c26_4 := sqE _ _
@[simp] def c26_6l : List EO := [o 13 (.call 57) [],
 o 4 (.alloc [.t (.str []), .t (.int .i64 0), .t (.int .i64 0), .t (.int .i64 0), .t (.str []), .t (.int .i64 0), .t (.int .i64 0), .t (.int .i64 0), .t (.str []), .t (.int .i64 0), .t (.int .i64 0), .t (.int .i64 0), .t (.str []), .t (.int .i64 0), .t (.int .i64 0), .t (.int .i64 0), .t (.str []), .t (.int .i64 0), .t (.int .i64 0), .t (.int .i64 0), .t (.str []), .t (.int .i64 0), .t (.int .i64 0), .t (.int .i64 0), .t (.str []), .t (.int .i64 0), .t (.int .i64 0), .t (.int .i64 0), .t (.str []), .t (.int .i64 0), .t (.int .i64 0), .t (.int .i64 0), .t (.str []), .t (.int .i64 0), .t (.int .i64 0), .t (.int .i64 0), .t (.str []), .t (.int .i64 0), .t (.int .i64 0), .t (.int .i64 0), .t (.str []), .t (.int .i64 0), .t (.int .i64 0), .t (.int .i64 0), .t (.str []), .t (.int .i64 0), .t (.int .i64 0), .t (.int .i64 0), .t (.str []), .t (.int .i64 0), .t (.int .i64 0), .t (.int .i64 0), .t (.str []), .t (.int .i64 0), .t (.int .i64 0), .t (.int .i64 0), .t (.str []), .t (.int .i64 0), .t (.int .i64 0), .t (.int .i64 0), .t (.str []), .t (.int .i64 0), .t (.int .i64 0), .t (.int .i64 0), .t (.str []), .t (.int .i64 0), .t (.int .i64 0), .t (.int .i64 0), .t (.str []), .t (.int .i64 0), .t (.int .i64 0), .t (.int .i64 0), .t (.str []), .t (.int .i64 0), .t (.int .i64 0), .t (.int .i64 0), .t (.str []), .t (.int .i64 0), .t (.int .i64 0), .t (.int .i64 0), .t (.str []), .t (.int .i64 0), .t (.int .i64 0), .t (.int .i64 0), .t (.str []), .t (.int .i64 0), .t (.int .i64 0), .t (.int .i64 0), .t (.str []), .t (.int .i64 0), .t (.int .i64 0), .t (.int .i64 0), .t (.str []), .t (.int .i64 0), .t (.int .i64 0), .t (.int .i64 0), .t (.str []), .t (.int .i64 0), .t (.int .i64 0), .t (.int .i64 0), .t (.str []), .t (.int .i64 0), .t (.int .i64 0), .t (.int .i64 0), .t (.str []), .t (.int .i64 0), .t (.int .i64 0), .t (.int .i64 0)]) [],
 u (.store 108) [t 4, t 13]]
def c26_6 : EC := .rg c26_6l false
@[simp] theorem c26_6e : Rg c26_6 c26_6l false := rgE _ _
@[simp] def c26_7l : List EO := [o 5 (.allocT 115 [.t (.nilp), .snil]) []]
def c26_7 : EC := .rg c26_7l false
@[simp] theorem c26_7e : Rg c26_7 c26_7l false := rgE _ _
@[simp] def c26_8l : List EO := [o 14 (.faddr 2) [t 1],
 o 15 (.load 1 false) [t 14],
 o 16 .lenL [t 15],
 o 17 .mv [i 0]]
def c26_8 : EC := .rg c26_8l false
@[simp] theorem c26_8e : Rg c26_8 c26_8l false := rgE _ _
@[simp] def c26_9l : List EO := [o 18 (.bin .lss) [t 17, t 16]]
def c26_9 : EC := .rg c26_9l false
@[simp] theorem c26_9e : Rg c26_9 c26_9l false := rgE _ _
def c26_10 : EC := .cd (t 18) .skip (.ex 0)
@[simp] theorem c26_10e : Cd c26_10 (t 18) .skip (.ex 0) := cdE _ _ _
@[simp] def c26_11l : List EO := [o 19 (.iaS 3) [t 15, t 17],
 o 20 (.load 3 true) [t 19],
 o 7 (.alloc [.t (.int .i64 0), .t (.int .i64 0), .t (.int .i64 0)]) [],
 u (.store 3) [t 7, t 20]]
def c26_11 : EC := .rg c26_11l false
@[simp] theorem c26_11e : Rg c26_11 c26_11l false := rgE _ _
@[simp] def c26_12l : List EO := [o 21 (.faddr 0) [t 7],
 o 22 (.load 1 false) [t 21],
 o 23 (.iaA 27 4) [t 4, t 22],
 o 24 (.faddr 0) [t 23],
 o 25 (.load 1 false) [t 24],
 o 26 (.call 60) [t 5, t 25]]
def c26_12 : EC := .rg c26_12l false
@[simp] theorem c26_12e : Rg c26_12 c26_12l false := rgE _ _
@[simp] def c26_13l : List EO := [o 27 (.faddr 1) [t 7],
 o 28 (.load 1 false) [t 27],
 o 29 (.faddr 2) [t 7],
 o 30 (.load 1 false) [t 29],
 o 31 (.bsl 1) [t 28, t 30],
 o 32 (.faddr 0) [t 7],
 o 33 (.load 1 false) [t 32],
 o 34 (.iaA 27 4) [t 4, t 33],
 o 35 (.faddr 3) [t 34],
 o 36 (.load 1 false) [t 35],
 o 37 (.slL 1 false true false) [t 31, t 36],
 o 38 .lenL [t 37],
 o 39 .mv [i 0]]
def c26_13 : EC := .rg c26_13l true
@[simp] theorem c26_13e : Rg c26_13 c26_13l true := rgE _ _
@[simp] def c26_14l : List EO := [o 40 (.bin .lss) [t 39, t 38]]
def c26_14 : EC := .rg c26_14l false
@[simp] theorem c26_14e : Rg c26_14 c26_14l false := rgE _ _
def c26_15 : EC := .cd (t 40) .skip (.ex 2)
@[simp] theorem c26_15e : Cd c26_15 (t 40) .skip (.ex 2) := cdE _ _ _
@[simp] def c26_16l : List EO := [o 41 (.iaS 1) [t 37, t 39],
 o 42 (.load 1 false) [t 41],
 m 9 42]
def c26_16 : EC := .rg c26_16l false
@[simp] theorem c26_16e : Rg c26_16 c26_16l false := rgE _ _
@[simp] def c26_17l : List EO := [m 43 9,
 o 44 (.call 61) [t 43],
 o 45 (.bin .add) [c (.t (.str [32])), t 44],
 o 46 (.call 60) [t 5, t 45]]
def c26_17 : EC := .rg c26_17l false
@[simp] theorem c26_17e : Rg c26_17 c26_17l false := rgE _ _
def c26_18 : EC := .sq c26_16 c26_17
@[simp] theorem c26_18e : Sq c26_18 c26_16 c26_17 := sqE _ _
def c26_19 : EC := .bk 3 c26_18
@[simp] theorem c26_19e : Bk c26_19 3 c26_18 := bkE _ _
@[simp] def c26_20l : List EO := [o 47 (.bin .add) [t 39, i 1],
 m 39 47]
def c26_20 : EC := .rg c26_20l false
@[simp] theorem c26_20e : Rg c26_20 c26_20l false := rgE _ _
def c26_21 : EC := .sq c26_19 c26_20
@[simp] theorem c26_21e : Sq c26_21 c26_19 c26_20 := sqE _ _
def c26_22 : EC := .sq c26_15 c26_21
@[simp] theorem c26_22e : Sq c26_22 c26_15 c26_21 := sqE _ _
def c26_23 : EC := .sq c26_14 c26_22
@[simp] theorem c26_23e : Sq c26_23 c26_14 c26_22 := sqE _ _
def c26_24 : EC := .bk 2 (.lp c26_23)
@[simp] theorem c26_24e : Bk c26_24 2 (.lp c26_23) := bkE _ _
def c26_25 : EC := .sq c26_13 c26_24
@[simp] theorem c26_25e : Sq c26_25 c26_13 c26_24 := sqE _ _
@[simp] def c26_26l : List EO := [o 48 (.call 62) [t 5, c (.t (.int .u8 10))]]
def c26_26 : EC := .rg c26_26l false
@[simp] theorem c26_26e : Rg c26_26 c26_26l false := rgE _ _
def c26_27 : EC := .sq c26_25 c26_26
@[simp] theorem c26_27e : Sq c26_27 c26_25 c26_26 := sqE _ _
def c26_28 : EC := .sq c26_12 c26_27
@[simp] theorem c26_28e : Sq c26_28 c26_12 c26_27 := sqE _ _
def c26_29 : EC := .sq c26_11 c26_28
@[simp] theorem c26_29e : Sq c26_29 c26_11 c26_28 := sqE _ _
def c26_30 : EC := .bk 1 c26_29
@[simp] theorem c26_30e : Bk c26_30 1 c26_29 := bkE _ _
@[simp] def c26_31l : List EO := [o 49 (.bin .add) [t 17, i 1],
 m 17 49]
def c26_31 : EC := .rg c26_31l false
@[simp] theorem c26_31e : Rg c26_31 c26_31l false := rgE _ _
def c26_32 : EC := .sq c26_30 c26_31
@[simp] theorem c26_32e : Sq c26_32 c26_30 c26_31 := sqE _ _
def c26_33 : EC := .sq c26_10 c26_32
@[simp] theorem c26_33e : Sq c26_33 c26_10 c26_32 := sqE _ _
def c26_34 : EC := .sq c26_9 c26_33
@[simp] theorem c26_34e : Sq c26_34 c26_9 c26_33 := sqE _ _
def c26_35 : EC := .bk 0 (.lp c26_34)
@[simp] theorem c26_35e : Bk c26_35 0 (.lp c26_34) := bkE _ _
def c26_36 : EC := .sq c26_8 c26_35
@[simp] theorem c26_36e : Sq c26_36 c26_8 c26_35 := sqE _ _
@[simp] def c26_37l : List EO := [o 50 (.call 63) [t 5],
 m 2 50,
 o 3 .mv [i 0]]
def c26_37 : EC := .rg c26_37l false
@[simp] theorem c26_37e : Rg c26_37 c26_37l false := rgE _ _
def c26_38 : EC := .sq c26_37 .rt
@[simp] theorem c26_38e : Sq c26_38 c26_37 .rt := sqE _ _
def c26_39 : EC := .sq c26_36 c26_38
@[simp] theorem c26_39e : Sq c26_39 c26_36 c26_38 := sqE _ _
def c26_40 : EC := .sq c26_7 c26_39
@[simp] theorem c26_40e : Sq c26_40 c26_7 c26_39 := sqE _ _
def c26_41 : EC := .sq c26_6 c26_40
@[simp] theorem c26_41e : Sq c26_41 c26_6 c26_40 := sqE _ _
def c26_42 : EC := .sq c26_5 c26_41
@[simp] theorem c26_42e : Sq c26_42 c26_5 c26_41 := sqE _ _
def c26_43 : EC := .sq c26_0 c26_42
@[simp] theorem c26_43e : Sq c26_43 c26_0 c26_42 := sqE _ _
def c_compile_Text_26 : EC := c26_43
theorem k_26 : ecF Tryd.prog 26 = some (51, c_compile_Text_26, [.tm 2, .tm 3]) := by kernel_rfl

/-- tallystone/compile.Valid -/
@[simp] def c27_0l : List EO := [o 1 .box [t 0],
 o 2 .mv [b false]]
def c27_0 : EC := .rg c27_0l false
@[simp] theorem c27_0e : Rg c27_0 c27_0l false := rgE _ _
@[simp] def c27_1l : List EO := [o 6 (.load 3 true) [t 1],
 o 7 (.call 55) [t 6],
 m 5 7,
 o 8 (.ext 0) [t 5],
 o 9 (.ext 1) [t 5],
 m 3 8,
 m 4 9]
def c27_1 : EC := .rg c27_1l false
@[simp] theorem c27_1e : Rg c27_1 c27_1l false := rgE _ _
@[simp] def c27_2l : List EO := [m 10 4,
 m 2 10]
def c27_2 : EC := .rg c27_2l false
@[simp] theorem c27_2e : Rg c27_2 c27_2l false := rgE _ _
def c27_3 : EC := .sq c27_2 .rt
@[simp] theorem c27_3e : Sq c27_3 c27_2 .rt := sqE _ _
def c27_4 : EC := .sq c27_1 c27_3
@[simp] theorem c27_4e : Sq c27_4 c27_1 c27_3 := sqE _ _
def c27_5 : EC := .sq c27_0 c27_4
@[simp] theorem c27_5e : Sq c27_5 c27_0 c27_4 := sqE _ _
def c_compile_Valid_27 : EC := c27_5
theorem k_27 : ecF Tryd.prog 27 = some (11, c_compile_Valid_27, [.tm 2]) := by kernel_rfl

/-- tallystone/tallystoneref34.Valid -/
@[simp] def c28_0l : List EO := [o 1 .box [t 0],
 o 2 .mv [b false]]
def c28_0 : EC := .rg c28_0l false
@[simp] theorem c28_0e : Rg c28_0 c28_0l false := rgE _ _
@[simp] def c28_1l : List EO := [o 6 (.load 3 true) [t 1],
 o 7 (.call 56) [t 6],
 m 5 7,
 o 8 (.ext 0) [t 5],
 o 9 (.ext 1) [t 5],
 m 3 8,
 m 4 9]
def c28_1 : EC := .rg c28_1l false
@[simp] theorem c28_1e : Rg c28_1 c28_1l false := rgE _ _
@[simp] def c28_2l : List EO := [m 10 4,
 m 2 10]
def c28_2 : EC := .rg c28_2l false
@[simp] theorem c28_2e : Rg c28_2 c28_2l false := rgE _ _
def c28_3 : EC := .sq c28_2 .rt
@[simp] theorem c28_3e : Sq c28_3 c28_2 .rt := sqE _ _
def c28_4 : EC := .sq c28_1 c28_3
@[simp] theorem c28_4e : Sq c28_4 c28_1 c28_3 := sqE _ _
def c28_5 : EC := .sq c28_0 c28_4
@[simp] theorem c28_5e : Sq c28_5 c28_0 c28_4 := sqE _ _
def c_tallystoneref34_Valid_28 : EC := c28_5
theorem k_28 : ecF Tryd.prog 28 = some (11, c_tallystoneref34_Valid_28, [.tm 2]) := by kernel_rfl

/-- tallystone/compile.Same -/
@[simp] def c29_0l : List EO := [o 2 .box [t 0],
 o 3 .box [t 1],
 o 4 .mv [b false]]
def c29_0 : EC := .rg c29_0l false
@[simp] theorem c29_0e : Rg c29_0 c29_0l false := rgE _ _
@[simp] def c29_1l : List EO := [o 5 (.faddr 0) [t 2],
 o 6 (.load 1 false) [t 5],
 o 7 (.faddr 0) [t 3],
 o 8 (.load 1 false) [t 7],
 o 9 (.bin .eql) [t 6, t 8],
 m 10 9,
 y 11 10 (.faddr 1) [t 2],
 y 12 10 (.load 1 false) [t 11],
 y 13 10 (.faddr 1) [t 3],
 y 14 10 (.load 1 false) [t 13],
 y 15 10 (.eqv false false [0]) [t 12, t 14],
 o 16 .pick [t 10, t 15, b false],
 m 17 16,
 y 18 17 (.faddr 2) [t 2],
 y 19 17 (.load 1 false) [t 18],
 y 20 17 (.faddr 2) [t 3],
 y 21 17 (.load 1 false) [t 20],
 y 22 17 (.call 64) [t 19, t 21],
 o 23 .pick [t 17, t 22, b false],
 m 4 23]
def c29_1 : EC := .rg c29_1l false
@[simp] theorem c29_1e : Rg c29_1 c29_1l false := rgE _ _
def c29_2 : EC := .sq c29_1 .rt
@[simp] theorem c29_2e : Sq c29_2 c29_1 .rt := sqE _ _
def c29_3 : EC := .sq c29_0 c29_2
@[simp] theorem c29_3e : Sq c29_3 c29_0 c29_2 := sqE _ _
def c_compile_Same_29 : EC := c29_3
theorem k_29 : ecF Tryd.prog 29 = some (24, c_compile_Same_29, [.tm 4]) := by kernel_rfl

/-- tallystone/tallystoneref34.Same -/
@[simp] def c30_0l : List EO := [o 2 .box [t 0],
 o 3 .box [t 1],
 o 4 .mv [b false]]
def c30_0 : EC := .rg c30_0l false
@[simp] theorem c30_0e : Rg c30_0 c30_0l false := rgE _ _
@[simp] def c30_1l : List EO := [o 6 (.faddr 0) [t 2],
 o 7 (.load 1 false) [t 6],
 o 8 (.faddr 0) [t 3],
 o 9 (.load 1 false) [t 8],
 o 10 (.bin .neq) [t 7, t 9],
 m 11 10,
 n 12 11 (.faddr 1) [t 2],
 n 13 11 (.load 1 false) [t 12],
 n 14 11 (.faddr 1) [t 3],
 n 15 11 (.load 1 false) [t 14],
 n 16 11 (.eqv true false [0]) [t 13, t 15],
 o 17 .pick [t 11, b true, t 16],
 m 18 17,
 n 19 18 (.faddr 2) [t 2],
 n 20 18 (.load 1 false) [t 19],
 n 21 18 .lenL [t 20],
 n 22 18 (.faddr 2) [t 3],
 n 23 18 (.load 1 false) [t 22],
 n 24 18 .lenL [t 23],
 n 25 18 (.bin .neq) [t 21, t 24],
 o 26 .pick [t 18, b true, t 25]]
def c30_1 : EC := .rg c30_1l false
@[simp] theorem c30_1e : Rg c30_1 c30_1l false := rgE _ _
@[simp] def c30_2l : List EO := [o 4 .mv [b false]]
def c30_2 : EC := .rg c30_2l false
@[simp] theorem c30_2e : Rg c30_2 c30_2l false := rgE _ _
def c30_3 : EC := .sq c30_2 .rt
@[simp] theorem c30_3e : Sq c30_3 c30_2 .rt := sqE _ _
def c30_4 : EC := .cd (t 26) c30_3 .skip
@[simp] theorem c30_4e : Cd c30_4 (t 26) c30_3 .skip := cdE _ _ _
def c30_5 : EC := .sq c30_1 c30_4
@[simp] theorem c30_5e : Sq c30_5 c30_1 c30_4 := sqE _ _
@[simp] def c30_6l : List EO := [o 5 .mv [i 0]]
def c30_6 : EC := .rg c30_6l false
@[simp] theorem c30_6e : Rg c30_6 c30_6l false := rgE _ _
@[simp] def c30_7l : List EO := [m 27 5,
 o 28 (.faddr 2) [t 2],
 o 29 (.load 1 false) [t 28],
 o 30 .lenL [t 29],
 o 31 (.bin .lss) [t 27, t 30]]
def c30_7 : EC := .rg c30_7l false
@[simp] theorem c30_7e : Rg c30_7 c30_7l false := rgE _ _
def c30_8 : EC := .cd (t 31) .skip (.ex 0)
@[simp] theorem c30_8e : Cd c30_8 (t 31) .skip (.ex 0) := cdE _ _ _
def c30_9 : EC := .sq c30_7 c30_8
@[simp] theorem c30_9e : Sq c30_9 c30_7 c30_8 := sqE _ _
@[simp] def c30_10l : List EO := [o 34 (.faddr 2) [t 2],
 o 35 (.load 1 false) [t 34],
 m 36 5,
 o 37 (.iaS 3) [t 35, t 36],
 o 38 (.load 3 true) [t 37],
 o 39 (.faddr 2) [t 3],
 o 40 (.load 1 false) [t 39],
 m 41 5,
 o 42 (.iaS 3) [t 40, t 41],
 o 43 (.load 3 true) [t 42],
 o 44 (.eqv true true [1, 1, 1]) [t 38, t 43]]
def c30_10 : EC := .rg c30_10l true
@[simp] theorem c30_10e : Rg c30_10 c30_10l true := rgE _ _
@[simp] def c30_11l : List EO := [o 4 .mv [b false]]
def c30_11 : EC := .rg c30_11l false
@[simp] theorem c30_11e : Rg c30_11 c30_11l false := rgE _ _
def c30_12 : EC := .sq c30_11 .rt
@[simp] theorem c30_12e : Sq c30_12 c30_11 .rt := sqE _ _
def c30_13 : EC := .cd (t 44) c30_12 .skip
@[simp] theorem c30_13e : Cd c30_13 (t 44) c30_12 .skip := cdE _ _ _
def c30_14 : EC := .sq c30_10 c30_13
@[simp] theorem c30_14e : Sq c30_14 c30_10 c30_13 := sqE _ _
def c30_15 : EC := .bk 1 c30_14
@[simp] theorem c30_15e : Bk c30_15 1 c30_14 := bkE _ _
@[simp] def c30_16l : List EO := [m 32 5,
 o 33 (.bin .add) [t 32, i 1],
 m 5 33]
def c30_16 : EC := .rg c30_16l false
@[simp] theorem c30_16e : Rg c30_16 c30_16l false := rgE _ _
def c30_17 : EC := .sq c30_15 c30_16
@[simp] theorem c30_17e : Sq c30_17 c30_15 c30_16 := sqE _ _
def c30_18 : EC := .sq c30_9 c30_17
@[simp] theorem c30_18e : Sq c30_18 c30_9 c30_17 := sqE _ _
def c30_19 : EC := .bk 0 (.lp c30_18)
@[simp] theorem c30_19e : Bk c30_19 0 (.lp c30_18) := bkE _ _
def c30_20 : EC := .sq c30_6 c30_19
@[simp] theorem c30_20e : Sq c30_20 c30_6 c30_19 := sqE _ _
@[simp] def c30_21l : List EO := [o 4 .mv [b true]]
def c30_21 : EC := .rg c30_21l false
@[simp] theorem c30_21e : Rg c30_21 c30_21l false := rgE _ _
def c30_22 : EC := .sq c30_21 .rt
@[simp] theorem c30_22e : Sq c30_22 c30_21 .rt := sqE _ _
def c30_23 : EC := .sq c30_20 c30_22
@[simp] theorem c30_23e : Sq c30_23 c30_20 c30_22 := sqE _ _
def c30_24 : EC := .sq c30_5 c30_23
@[simp] theorem c30_24e : Sq c30_24 c30_5 c30_23 := sqE _ _
def c30_25 : EC := .sq c30_0 c30_24
@[simp] theorem c30_25e : Sq c30_25 c30_0 c30_24 := sqE _ _
def c_tallystoneref34_Same_30 : EC := c30_25
theorem k_30 : ecF Tryd.prog 30 = some (45, c_tallystoneref34_Same_30, [.tm 4]) := by kernel_rfl

/-- tallystone/tallystoneref34.Text -/
@[simp] def c31_0l : List EO := [o 1 .box [t 0],
 o 2 .mv [c (.t (.str []))]]
def c31_0 : EC := .rg c31_0l false
@[simp] theorem c31_0e : Rg c31_0 c31_0l false := rgE _ _
@[simp] def c31_1l : List EO := [o 6 (.bsl 1) [c (.t (.str [])), c (.t (.str [112, 117, 115, 104])), c (.t (.str [108, 111, 97, 100])), c (.t (.str [98, 97, 108, 97, 110, 99, 101])), c (.t (.str [112, 97, 114, 116, 110, 101, 114])), c (.t (.str [110, 101, 103])), c (.t (.str [97, 98, 115])), c (.t (.str [115, 104, 97, 114, 101])), c (.t (.str [110, 111, 116])), c (.t (.str [112, 101, 114])), c (.t (.str [97, 100, 100])), c (.t (.str [115, 117, 98])), c (.t (.str [109, 117, 108])), c (.t (.str [109, 105, 110])), c (.t (.str [109, 97, 120])), c (.t (.str [97, 110, 100])), c (.t (.str [111, 114])), c (.t (.str [108, 101, 115, 115])), c (.t (.str [108, 101, 115, 115, 101, 113, 117, 97, 108])), c (.t (.str [101, 113, 117, 97, 108])), c (.t (.str [110, 111, 116, 101, 113, 117, 97, 108])), c (.t (.str [103, 114, 101, 97, 116, 101, 114, 101, 113, 117, 97, 108])), c (.t (.str [103, 114, 101, 97, 116, 101, 114])), c (.t (.str [115, 116, 111, 114, 101])), c (.t (.str [114, 101, 113, 117, 105, 114, 101])), c (.t (.str [112, 111, 115, 116])), c (.t (.str [116, 111]))],
 m 3 6]
def c31_1 : EC := .rg c31_1l false
@[simp] theorem c31_1e : Rg c31_1 c31_1l false := rgE _ _
@[simp] def c31_2l : List EO := [o 4 .mv [c (.t (.str []))]]
def c31_2 : EC := .rg c31_2l false
@[simp] theorem c31_2e : Rg c31_2 c31_2l false := rgE _ _
@[simp] def c31_3l : List EO := [o 5 .mv [i 0]]
def c31_3 : EC := .rg c31_3l false
@[simp] theorem c31_3e : Rg c31_3 c31_3l false := rgE _ _
@[simp] def c31_4l : List EO := [m 7 5,
 o 8 (.faddr 2) [t 1],
 o 9 (.load 1 false) [t 8],
 o 10 .lenL [t 9],
 o 11 (.bin .lss) [t 7, t 10]]
def c31_4 : EC := .rg c31_4l false
@[simp] theorem c31_4e : Rg c31_4 c31_4l false := rgE _ _
def c31_5 : EC := .cd (t 11) .skip (.ex 0)
@[simp] theorem c31_5e : Cd c31_5 (t 11) .skip (.ex 0) := cdE _ _ _
def c31_6 : EC := .sq c31_4 c31_5
@[simp] theorem c31_6e : Sq c31_6 c31_4 c31_5 := sqE _ _
@[simp] def c31_7l : List EO := [m 14 4,
 m 15 3,
 o 16 (.faddr 2) [t 1],
 o 17 (.load 1 false) [t 16],
 m 18 5,
 o 19 (.iaS 3) [t 17, t 18],
 o 20 (.faddr 0) [t 19],
 o 21 (.load 1 false) [t 20],
 o 22 (.iaS 1) [t 15, t 21],
 o 23 (.load 1 false) [t 22],
 o 24 (.bin .add) [t 14, t 23],
 m 4 24]
def c31_7 : EC := .rg c31_7l false
@[simp] theorem c31_7e : Rg c31_7 c31_7l false := rgE _ _
@[simp] def c31_8l : List EO := [o 25 (.faddr 2) [t 1],
 o 26 (.load 1 false) [t 25],
 m 27 5,
 o 28 (.iaS 3) [t 26, t 27],
 o 29 (.faddr 0) [t 28],
 o 30 (.load 1 false) [t 29],
 o 31 (.call 65) [t 30],
 o 32 (.bin .geq) [t 31, i 1]]
def c31_8 : EC := .rg c31_8l false
@[simp] theorem c31_8e : Rg c31_8 c31_8l false := rgE _ _
@[simp] def c31_9l : List EO := [m 33 4,
 o 34 (.bin .add) [t 33, c (.t (.str [32]))],
 o 35 (.faddr 2) [t 1],
 o 36 (.load 1 false) [t 35],
 m 37 5,
 o 38 (.iaS 3) [t 36, t 37],
 o 39 (.faddr 1) [t 38],
 o 40 (.load 1 false) [t 39],
 o 41 (.call 66) [t 40],
 o 42 (.bin .add) [t 34, t 41],
 m 4 42]
def c31_9 : EC := .rg c31_9l false
@[simp] theorem c31_9e : Rg c31_9 c31_9l false := rgE _ _
def c31_10 : EC := .cd (t 32) c31_9 .skip
@[simp] theorem c31_10e : Cd c31_10 (t 32) c31_9 .skip := cdE _ _ _
def c31_11 : EC := .sq c31_8 c31_10
@[simp] theorem c31_11e : Sq c31_11 c31_8 c31_10 := sqE _ _
@[simp] def c31_12l : List EO := [o 43 (.faddr 2) [t 1],
 o 44 (.load 1 false) [t 43],
 m 45 5,
 o 46 (.iaS 3) [t 44, t 45],
 o 47 (.faddr 0) [t 46],
 o 48 (.load 1 false) [t 47],
 o 49 (.call 65) [t 48],
 o 50 (.bin .eql) [t 49, i 2]]
def c31_12 : EC := .rg c31_12l false
@[simp] theorem c31_12e : Rg c31_12 c31_12l false := rgE _ _
@[simp] def c31_13l : List EO := [m 51 4,
 o 52 (.bin .add) [t 51, c (.t (.str [32]))],
 o 53 (.faddr 2) [t 1],
 o 54 (.load 1 false) [t 53],
 m 55 5,
 o 56 (.iaS 3) [t 54, t 55],
 o 57 (.faddr 2) [t 56],
 o 58 (.load 1 false) [t 57],
 o 59 (.call 66) [t 58],
 o 60 (.bin .add) [t 52, t 59],
 m 4 60]
def c31_13 : EC := .rg c31_13l false
@[simp] theorem c31_13e : Rg c31_13 c31_13l false := rgE _ _
def c31_14 : EC := .cd (t 50) c31_13 .skip
@[simp] theorem c31_14e : Cd c31_14 (t 50) c31_13 .skip := cdE _ _ _
def c31_15 : EC := .sq c31_12 c31_14
@[simp] theorem c31_15e : Sq c31_15 c31_12 c31_14 := sqE _ _
@[simp] def c31_16l : List EO := [m 61 4,
 o 62 (.bin .add) [t 61, c (.t (.str [10]))],
 m 4 62]
def c31_16 : EC := .rg c31_16l false
@[simp] theorem c31_16e : Rg c31_16 c31_16l false := rgE _ _
def c31_17 : EC := .sq c31_15 c31_16
@[simp] theorem c31_17e : Sq c31_17 c31_15 c31_16 := sqE _ _
def c31_18 : EC := .sq c31_11 c31_17
@[simp] theorem c31_18e : Sq c31_18 c31_11 c31_17 := sqE _ _
def c31_19 : EC := .sq c31_7 c31_18
@[simp] theorem c31_19e : Sq c31_19 c31_7 c31_18 := sqE _ _
def c31_20 : EC := .bk 1 c31_19
@[simp] theorem c31_20e : Bk c31_20 1 c31_19 := bkE _ _
@[simp] def c31_21l : List EO := [m 12 5,
 o 13 (.bin .add) [t 12, i 1],
 m 5 13]
def c31_21 : EC := .rg c31_21l false
@[simp] theorem c31_21e : Rg c31_21 c31_21l false := rgE _ _
def c31_22 : EC := .sq c31_20 c31_21
@[simp] theorem c31_22e : Sq c31_22 c31_20 c31_21 := sqE _ _
def c31_23 : EC := .sq c31_6 c31_22
@[simp] theorem c31_23e : Sq c31_23 c31_6 c31_22 := sqE _ _
def c31_24 : EC := .bk 0 (.lp c31_23)
@[simp] theorem c31_24e : Bk c31_24 0 (.lp c31_23) := bkE _ _
def c31_25 : EC := .sq c31_3 c31_24
@[simp] theorem c31_25e : Sq c31_25 c31_3 c31_24 := sqE _ _
@[simp] def c31_26l : List EO := [m 63 4,
 m 2 63]
def c31_26 : EC := .rg c31_26l false
@[simp] theorem c31_26e : Rg c31_26 c31_26l false := rgE _ _
def c31_27 : EC := .sq c31_26 .rt
@[simp] theorem c31_27e : Sq c31_27 c31_26 .rt := sqE _ _
def c31_28 : EC := .sq c31_25 c31_27
@[simp] theorem c31_28e : Sq c31_28 c31_25 c31_27 := sqE _ _
def c31_29 : EC := .sq c31_2 c31_28
@[simp] theorem c31_29e : Sq c31_29 c31_2 c31_28 := sqE _ _
def c31_30 : EC := .sq c31_1 c31_29
@[simp] theorem c31_30e : Sq c31_30 c31_1 c31_29 := sqE _ _
def c31_31 : EC := .sq c31_0 c31_30
@[simp] theorem c31_31e : Sq c31_31 c31_0 c31_30 := sqE _ _
def c_tallystoneref34_Text_31 : EC := c31_31
theorem k_31 : ecF Tryd.prog 31 = some (64, c_tallystoneref34_Text_31, [.tm 2]) := by kernel_rfl

/-- tallystone/tallystoneref34.Fold -/
@[simp] def c32_0l : List EO := [o 1 .box [t 0],
 o 2 (.alloc [.t (.str []), .t (.bool false), .snil]) []]
def c32_0 : EC := .rg c32_0l false
@[simp] theorem c32_0e : Rg c32_0 c32_0l false := rgE _ _
@[simp] def c32_1l : List EO := [o 15 (.faddr 0) [t 1],
 o 16 (.load 1 false) [t 15],
 o 17 (.faddr 1) [t 1],
 o 18 (.load 1 false) [t 17],
 o 19 (.build [.t (.str []), .t (.bool false), .snil] [(0, 1), (1, 1)]) [t 16, t 18],
 o 3 (.alloc [.t (.str []), .t (.bool false), .snil]) [],
 u (.store 3) [t 3, t 19]]
def c32_1 : EC := .rg c32_1l false
@[simp] theorem c32_1e : Rg c32_1 c32_1l false := rgE _ _
@[simp] def c32_2l : List EO := [o 4 .mv [i 0]]
def c32_2 : EC := .rg c32_2l false
@[simp] theorem c32_2e : Rg c32_2 c32_2l false := rgE _ _
@[simp] def c32_3l : List EO := [m 20 4,
 o 21 (.faddr 2) [t 1],
 o 22 (.load 1 false) [t 21],
 o 23 .lenL [t 22],
 o 24 (.bin .lss) [t 20, t 23]]
def c32_3 : EC := .rg c32_3l false
@[simp] theorem c32_3e : Rg c32_3 c32_3l false := rgE _ _
def c32_4 : EC := .cd (t 24) .skip (.ex 0)
@[simp] theorem c32_4e : Cd c32_4 (t 24) .skip (.ex 0) := cdE _ _ _
def c32_5 : EC := .sq c32_3 c32_4
@[simp] theorem c32_5e : Sq c32_5 c32_3 c32_4 := sqE _ _
@[simp] def c32_6l : List EO := [o 27 (.faddr 2) [t 1],
 o 28 (.load 1 false) [t 27],
 m 29 4,
 o 30 (.iaS 3) [t 28, t 29],
 o 31 (.load 3 true) [t 30],
 o 5 (.alloc [.t (.int .i64 0), .t (.int .i64 0), .t (.int .i64 0)]) [],
 u (.store 3) [t 5, t 31]]
def c32_6 : EC := .rg c32_6l false
@[simp] theorem c32_6e : Rg c32_6 c32_6l false := rgE _ _
@[simp] def c32_7l : List EO := [o 33 (.faddr 0) [t 5],
 o 34 (.load 1 false) [t 33],
 o 35 (.call 67) [t 34],
 m 32 35,
 o 36 (.ext 0) [t 32],
 o 37 (.ext 1) [t 32],
 m 6 36,
 m 7 37]
def c32_7 : EC := .rg c32_7l false
@[simp] theorem c32_7e : Rg c32_7 c32_7l false := rgE _ _
@[simp] def c32_8l : List EO := [o 38 (.faddr 2) [t 3],
 o 39 (.load 1 false) [t 38],
 o 40 .lenL [t 39],
 m 8 40]
def c32_8 : EC := .rg c32_8l false
@[simp] theorem c32_8e : Rg c32_8 c32_8l false := rgE _ _
@[simp] def c32_9l : List EO := [m 41 6,
 o 42 (.bin .gtr) [t 41, i 0],
 m 43 42,
 y 44 43 .mv [t 7],
 y 45 43 (.bin .gtr) [t 44, i 0],
 o 46 .pick [t 43, t 45, b false],
 m 47 46,
 y 48 47 (.faddr 0) [t 5],
 y 49 47 (.load 1 false) [t 48],
 y 50 47 (.bin .neq) [t 49, i 7],
 o 51 .pick [t 47, t 50, b false],
 m 52 51,
 y 53 52 .mv [t 8],
 y 54 52 .mv [t 6],
 y 55 52 (.bin .geq) [t 53, t 54],
 o 56 .pick [t 52, t 55, b false],
 m 9 56]
def c32_9 : EC := .rg c32_9l false
@[simp] theorem c32_9e : Rg c32_9 c32_9l false := rgE _ _
@[simp] def c32_10l : List EO := [o 10 .mv [i 0]]
def c32_10 : EC := .rg c32_10l false
@[simp] theorem c32_10e : Rg c32_10 c32_10l false := rgE _ _
@[simp] def c32_11l : List EO := [m 57 10,
 m 58 6,
 o 59 (.bin .lss) [t 57, t 58],
 m 60 59,
 y 61 60 .mv [t 9],
 o 62 .pick [t 60, t 61, b false]]
def c32_11 : EC := .rg c32_11l false
@[simp] theorem c32_11e : Rg c32_11 c32_11l false := rgE _ _
def c32_12 : EC := .cd (t 62) .skip (.ex 2)
@[simp] theorem c32_12e : Cd c32_12 (t 62) .skip (.ex 2) := cdE _ _ _
def c32_13 : EC := .sq c32_11 c32_12
@[simp] theorem c32_13e : Sq c32_13 c32_11 c32_12 := sqE _ _
@[simp] def c32_14l : List EO := [o 65 (.faddr 2) [t 3],
 o 66 (.load 1 false) [t 65],
 m 67 8,
 o 68 (.bin .sub) [t 67, i 1],
 m 69 10,
 o 70 (.bin .sub) [t 68, t 69],
 o 71 (.iaS 3) [t 66, t 70],
 o 72 (.faddr 0) [t 71],
 o 73 (.load 1 false) [t 72],
 o 74 (.bin .eql) [t 73, i 1],
 m 9 74]
def c32_14 : EC := .rg c32_14l false
@[simp] theorem c32_14e : Rg c32_14 c32_14l false := rgE _ _
def c32_15 : EC := .bk 3 c32_14
@[simp] theorem c32_15e : Bk c32_15 3 c32_14 := bkE _ _
@[simp] def c32_16l : List EO := [m 63 10,
 o 64 (.bin .add) [t 63, i 1],
 m 10 64]
def c32_16 : EC := .rg c32_16l false
@[simp] theorem c32_16e : Rg c32_16 c32_16l false := rgE _ _
def c32_17 : EC := .sq c32_15 c32_16
@[simp] theorem c32_17e : Sq c32_17 c32_15 c32_16 := sqE _ _
def c32_18 : EC := .sq c32_13 c32_17
@[simp] theorem c32_18e : Sq c32_18 c32_13 c32_17 := sqE _ _
def c32_19 : EC := .bk 2 (.lp c32_18)
@[simp] theorem c32_19e : Bk c32_19 2 (.lp c32_18) := bkE _ _
def c32_20 : EC := .sq c32_10 c32_19
@[simp] theorem c32_20e : Sq c32_20 c32_10 c32_19 := sqE _ _
@[simp] def c32_21l : List EO := [m 75 9]
def c32_21 : EC := .rg c32_21l false
@[simp] theorem c32_21e : Rg c32_21 c32_21l false := rgE _ _
@[simp] def c32_22l : List EO := [o 76 (.faddr 2) [t 3],
 o 77 (.load 1 false) [t 76],
 m 78 8,
 m 79 6,
 o 80 (.bin .sub) [t 78, t 79],
 o 81 (.iaS 3) [t 77, t 80],
 o 82 (.faddr 1) [t 81],
 o 83 (.load 1 false) [t 82],
 m 11 83,
 o 12 .mv [i 0]]
def c32_22 : EC := .rg c32_22l false
@[simp] theorem c32_22e : Rg c32_22 c32_22l false := rgE _ _
@[simp] def c32_23l : List EO := [m 84 6,
 o 85 (.bin .eql) [t 84, i 2]]
def c32_23 : EC := .rg c32_23l false
@[simp] theorem c32_23e : Rg c32_23 c32_23l false := rgE _ _
@[simp] def c32_24l : List EO := [o 86 (.faddr 2) [t 3],
 o 87 (.load 1 false) [t 86],
 m 88 8,
 o 89 (.bin .sub) [t 88, i 1],
 o 90 (.iaS 3) [t 87, t 89],
 o 91 (.faddr 1) [t 90],
 o 92 (.load 1 false) [t 91],
 m 12 92]
def c32_24 : EC := .rg c32_24l false
@[simp] theorem c32_24e : Rg c32_24 c32_24l false := rgE _ _
def c32_25 : EC := .cd (t 85) c32_24 .skip
@[simp] theorem c32_25e : Cd c32_25 (t 85) c32_24 .skip := cdE _ _ _
def c32_26 : EC := .sq c32_23 c32_25
@[simp] theorem c32_26e : Sq c32_26 c32_23 c32_25 := sqE _ _
@[simp] def c32_27l : List EO := [o 94 (.faddr 0) [t 5],
 o 95 (.load 1 false) [t 94],
 o 96 (.faddr 1) [t 5],
 o 97 (.load 1 false) [t 96],
 m 98 11,
 m 99 12,
 o 100 (.call 14) [t 95, t 97, t 98, t 99],
 m 93 100,
 o 101 (.ext 0) [t 93],
 o 102 (.ext 1) [t 93],
 m 13 101,
 m 14 102]
def c32_27 : EC := .rg c32_27l false
@[simp] theorem c32_27e : Rg c32_27 c32_27l false := rgE _ _
@[simp] def c32_28l : List EO := [m 103 14]
def c32_28 : EC := .rg c32_28l false
@[simp] theorem c32_28e : Rg c32_28 c32_28l false := rgE _ _
@[simp] def c32_29l : List EO := [o 104 (.bsl 3) [],
 o 105 (.faddr 2) [t 3],
 o 106 (.load 1 false) [t 105],
 m 107 8,
 m 108 6,
 o 109 (.bin .sub) [t 107, t 108],
 o 110 (.slL 3 false true false) [t 106, t 109],
 o 111 (.app 103 3 24) [t 104, t 110],
 m 112 13,
 o 113 (.build [.t (.int .i64 0), .t (.int .i64 0), .t (.int .i64 0)] [(0, 1), (1, 1), (2, 1)]) [i 1, t 112, i 0],
 o 114 (.bsl 3) [t 113],
 o 115 (.app 103 3 24) [t 111, t 114],
 o 116 (.faddr 2) [t 3],
 u (.store 1) [t 116, t 115]]
def c32_29 : EC := .rg c32_29l false
@[simp] theorem c32_29e : Rg c32_29 c32_29l false := rgE _ _
def c32_30 : EC := .sq c32_29 (.ex 1)
@[simp] theorem c32_30e : Sq c32_30 c32_29 (.ex 1) := sqE _ _
def c32_31 : EC := .cd (t 103) c32_30 .skip
@[simp] theorem c32_31e : Cd c32_31 (t 103) c32_30 .skip := cdE _ _ _
def c32_32 : EC := .sq c32_28 c32_31
@[simp] theorem c32_32e : Sq c32_32 c32_28 c32_31 := sqE _ _
def c32_33 : EC := .sq c32_27 c32_32
@[simp] theorem c32_33e : Sq c32_33 c32_27 c32_32 := sqE _ _
def c32_34 : EC := .sq c32_26 c32_33
@[simp] theorem c32_34e : Sq c32_34 c32_26 c32_33 := sqE _ _
def c32_35 : EC := .sq c32_22 c32_34
@[simp] theorem c32_35e : Sq c32_35 c32_22 c32_34 := sqE _ _
def c32_36 : EC := .cd (t 75) c32_35 .skip
@[simp] theorem c32_36e : Cd c32_36 (t 75) c32_35 .skip := cdE _ _ _
def c32_37 : EC := .sq c32_21 c32_36
@[simp] theorem c32_37e : Sq c32_37 c32_21 c32_36 := sqE _ _
@[simp] def c32_38l : List EO := [o 117 (.faddr 2) [t 3],
 o 118 (.load 1 false) [t 117],
 o 119 (.load 3 true) [t 5],
 o 120 (.bsl 3) [t 119],
 o 121 (.app 103 3 24) [t 118, t 120],
 o 122 (.faddr 2) [t 3],
 u (.store 1) [t 122, t 121]]
def c32_38 : EC := .rg c32_38l false
@[simp] theorem c32_38e : Rg c32_38 c32_38l false := rgE _ _
def c32_39 : EC := .sq c32_37 c32_38
@[simp] theorem c32_39e : Sq c32_39 c32_37 c32_38 := sqE _ _
def c32_40 : EC := .sq c32_20 c32_39
@[simp] theorem c32_40e : Sq c32_40 c32_20 c32_39 := sqE _ _
def c32_41 : EC := .sq c32_9 c32_40
@[simp] theorem c32_41e : Sq c32_41 c32_9 c32_40 := sqE _ _
def c32_42 : EC := .sq c32_8 c32_41
@[simp] theorem c32_42e : Sq c32_42 c32_8 c32_41 := sqE _ _
def c32_43 : EC := .sq c32_7 c32_42
@[simp] theorem c32_43e : Sq c32_43 c32_7 c32_42 := sqE _ _
def c32_44 : EC := .sq c32_6 c32_43
@[simp] theorem c32_44e : Sq c32_44 c32_6 c32_43 := sqE _ _
def c32_45 : EC := .bk 1 c32_44
@[simp] theorem c32_45e : Bk c32_45 1 c32_44 := bkE _ _
@[simp] def c32_46l : List EO := [m 25 4,
 o 26 (.bin .add) [t 25, i 1],
 m 4 26]
def c32_46 : EC := .rg c32_46l false
@[simp] theorem c32_46e : Rg c32_46 c32_46l false := rgE _ _
def c32_47 : EC := .sq c32_45 c32_46
@[simp] theorem c32_47e : Sq c32_47 c32_45 c32_46 := sqE _ _
def c32_48 : EC := .sq c32_5 c32_47
@[simp] theorem c32_48e : Sq c32_48 c32_5 c32_47 := sqE _ _
def c32_49 : EC := .bk 0 (.lp c32_48)
@[simp] theorem c32_49e : Bk c32_49 0 (.lp c32_48) := bkE _ _
def c32_50 : EC := .sq c32_2 c32_49
@[simp] theorem c32_50e : Sq c32_50 c32_2 c32_49 := sqE _ _
@[simp] def c32_51l : List EO := [o 123 (.load 3 true) [t 3],
 u (.store 3) [t 2, t 123]]
def c32_51 : EC := .rg c32_51l false
@[simp] theorem c32_51e : Rg c32_51 c32_51l false := rgE _ _
def c32_52 : EC := .sq c32_51 .rt
@[simp] theorem c32_52e : Sq c32_52 c32_51 .rt := sqE _ _
def c32_53 : EC := .sq c32_50 c32_52
@[simp] theorem c32_53e : Sq c32_53 c32_50 c32_52 := sqE _ _
def c32_54 : EC := .sq c32_1 c32_53
@[simp] theorem c32_54e : Sq c32_54 c32_1 c32_53 := sqE _ _
def c32_55 : EC := .sq c32_0 c32_54
@[simp] theorem c32_55e : Sq c32_55 c32_0 c32_54 := sqE _ _
def c_tallystoneref34_Fold_32 : EC := c32_55
theorem k_32 : ecF Tryd.prog 32 = some (124, c_tallystoneref34_Fold_32, [.ce 2 3 true]) := by kernel_rfl

/-- tallystone/tallystoneref34.Fold, with slices that grow in boxes -/
@[simp] def b32_0l : List EO := [o 1 .box [t 0],
 o 2 (.alloc [.t (.str []), .t (.bool false), .snil]) []]
def b32_0 : EC := .rg b32_0l false
@[simp] theorem b32_0e : Rg b32_0 b32_0l false := rgE _ _
@[simp] def b32_1l : List EO := [o 15 (.faddr 0) [t 1],
 o 16 (.load 1 false) [t 15],
 o 17 (.faddr 1) [t 1],
 o 18 (.load 1 false) [t 17],
 o 19 (.build [.t (.str []), .t (.bool false), .snil] [(0, 1), (1, 1)]) [t 16, t 18],
 o 3 (.alloc [.t (.str []), .t (.bool false), .snil]) [],
 u (.store 3) [t 3, t 19]]
def b32_1 : EC := .rg b32_1l false
@[simp] theorem b32_1e : Rg b32_1 b32_1l false := rgE _ _
@[simp] def b32_2l : List EO := [o 4 .mv [i 0]]
def b32_2 : EC := .rg b32_2l false
@[simp] theorem b32_2e : Rg b32_2 b32_2l false := rgE _ _
@[simp] def b32_3l : List EO := [m 20 4,
 o 21 (.faddr 2) [t 1],
 o 22 (.load 1 false) [t 21],
 o 23 .lenL [t 22],
 o 24 (.bin .lss) [t 20, t 23]]
def b32_3 : EC := .rg b32_3l false
@[simp] theorem b32_3e : Rg b32_3 b32_3l false := rgE _ _
def b32_4 : EC := .cd (t 24) .skip (.ex 0)
@[simp] theorem b32_4e : Cd b32_4 (t 24) .skip (.ex 0) := cdE _ _ _
def b32_5 : EC := .sq b32_3 b32_4
@[simp] theorem b32_5e : Sq b32_5 b32_3 b32_4 := sqE _ _
@[simp] def b32_6l : List EO := [o 27 (.faddr 2) [t 1],
 o 28 (.load 1 false) [t 27],
 m 29 4,
 o 30 (.iaS 3) [t 28, t 29],
 o 31 (.load 3 true) [t 30],
 o 5 (.alloc [.t (.int .i64 0), .t (.int .i64 0), .t (.int .i64 0)]) [],
 u (.store 3) [t 5, t 31]]
def b32_6 : EC := .rg b32_6l false
@[simp] theorem b32_6e : Rg b32_6 b32_6l false := rgE _ _
@[simp] def b32_7l : List EO := [o 33 (.faddr 0) [t 5],
 o 34 (.load 1 false) [t 33],
 o 35 (.call 67) [t 34],
 m 32 35,
 o 36 (.ext 0) [t 32],
 o 37 (.ext 1) [t 32],
 m 6 36,
 m 7 37]
def b32_7 : EC := .rg b32_7l false
@[simp] theorem b32_7e : Rg b32_7 b32_7l false := rgE _ _
@[simp] def b32_8l : List EO := [o 38 (.faddr 2) [t 3],
 o 39 (.load 1 false) [t 38],
 o 40 .lenL [t 39],
 m 8 40]
def b32_8 : EC := .rg b32_8l false
@[simp] theorem b32_8e : Rg b32_8 b32_8l false := rgE _ _
@[simp] def b32_9l : List EO := [m 41 6,
 o 42 (.bin .gtr) [t 41, i 0],
 m 43 42,
 y 44 43 .mv [t 7],
 y 45 43 (.bin .gtr) [t 44, i 0],
 o 46 .pick [t 43, t 45, b false],
 m 47 46,
 y 48 47 (.faddr 0) [t 5],
 y 49 47 (.load 1 false) [t 48],
 y 50 47 (.bin .neq) [t 49, i 7],
 o 51 .pick [t 47, t 50, b false],
 m 52 51,
 y 53 52 .mv [t 8],
 y 54 52 .mv [t 6],
 y 55 52 (.bin .geq) [t 53, t 54],
 o 56 .pick [t 52, t 55, b false],
 m 9 56]
def b32_9 : EC := .rg b32_9l false
@[simp] theorem b32_9e : Rg b32_9 b32_9l false := rgE _ _
@[simp] def b32_10l : List EO := [o 10 .mv [i 0]]
def b32_10 : EC := .rg b32_10l false
@[simp] theorem b32_10e : Rg b32_10 b32_10l false := rgE _ _
@[simp] def b32_11l : List EO := [m 57 10,
 m 58 6,
 o 59 (.bin .lss) [t 57, t 58],
 m 60 59,
 y 61 60 .mv [t 9],
 o 62 .pick [t 60, t 61, b false]]
def b32_11 : EC := .rg b32_11l false
@[simp] theorem b32_11e : Rg b32_11 b32_11l false := rgE _ _
def b32_12 : EC := .cd (t 62) .skip (.ex 2)
@[simp] theorem b32_12e : Cd b32_12 (t 62) .skip (.ex 2) := cdE _ _ _
def b32_13 : EC := .sq b32_11 b32_12
@[simp] theorem b32_13e : Sq b32_13 b32_11 b32_12 := sqE _ _
@[simp] def b32_14l : List EO := [o 65 (.faddr 2) [t 3],
 o 66 (.load 1 false) [t 65],
 m 67 8,
 o 68 (.bin .sub) [t 67, i 1],
 m 69 10,
 o 70 (.bin .sub) [t 68, t 69],
 o 71 (.iaS 3) [t 66, t 70],
 o 72 (.faddr 0) [t 71],
 o 73 (.load 1 false) [t 72],
 o 74 (.bin .eql) [t 73, i 1],
 m 9 74]
def b32_14 : EC := .rg b32_14l false
@[simp] theorem b32_14e : Rg b32_14 b32_14l false := rgE _ _
def b32_15 : EC := .bk 3 b32_14
@[simp] theorem b32_15e : Bk b32_15 3 b32_14 := bkE _ _
@[simp] def b32_16l : List EO := [m 63 10,
 o 64 (.bin .add) [t 63, i 1],
 m 10 64]
def b32_16 : EC := .rg b32_16l false
@[simp] theorem b32_16e : Rg b32_16 b32_16l false := rgE _ _
def b32_17 : EC := .sq b32_15 b32_16
@[simp] theorem b32_17e : Sq b32_17 b32_15 b32_16 := sqE _ _
def b32_18 : EC := .sq b32_13 b32_17
@[simp] theorem b32_18e : Sq b32_18 b32_13 b32_17 := sqE _ _
def b32_19 : EC := .bk 2 (.lp b32_18)
@[simp] theorem b32_19e : Bk b32_19 2 (.lp b32_18) := bkE _ _
def b32_20 : EC := .sq b32_10 b32_19
@[simp] theorem b32_20e : Sq b32_20 b32_10 b32_19 := sqE _ _
@[simp] def b32_21l : List EO := [m 75 9]
def b32_21 : EC := .rg b32_21l false
@[simp] theorem b32_21e : Rg b32_21 b32_21l false := rgE _ _
@[simp] def b32_22l : List EO := [o 76 (.faddr 2) [t 3],
 o 77 (.load 1 false) [t 76],
 m 78 8,
 m 79 6,
 o 80 (.bin .sub) [t 78, t 79],
 o 81 (.iaS 3) [t 77, t 80],
 o 82 (.faddr 1) [t 81],
 o 83 (.load 1 false) [t 82],
 m 11 83,
 o 12 .mv [i 0]]
def b32_22 : EC := .rg b32_22l false
@[simp] theorem b32_22e : Rg b32_22 b32_22l false := rgE _ _
@[simp] def b32_23l : List EO := [m 84 6,
 o 85 (.bin .eql) [t 84, i 2]]
def b32_23 : EC := .rg b32_23l false
@[simp] theorem b32_23e : Rg b32_23 b32_23l false := rgE _ _
@[simp] def b32_24l : List EO := [o 86 (.faddr 2) [t 3],
 o 87 (.load 1 false) [t 86],
 m 88 8,
 o 89 (.bin .sub) [t 88, i 1],
 o 90 (.iaS 3) [t 87, t 89],
 o 91 (.faddr 1) [t 90],
 o 92 (.load 1 false) [t 91],
 m 12 92]
def b32_24 : EC := .rg b32_24l false
@[simp] theorem b32_24e : Rg b32_24 b32_24l false := rgE _ _
def b32_25 : EC := .cd (t 85) b32_24 .skip
@[simp] theorem b32_25e : Cd b32_25 (t 85) b32_24 .skip := cdE _ _ _
def b32_26 : EC := .sq b32_23 b32_25
@[simp] theorem b32_26e : Sq b32_26 b32_23 b32_25 := sqE _ _
@[simp] def b32_27l : List EO := [o 94 (.faddr 0) [t 5],
 o 95 (.load 1 false) [t 94],
 o 96 (.faddr 1) [t 5],
 o 97 (.load 1 false) [t 96],
 m 98 11,
 m 99 12,
 o 100 (.call 14) [t 95, t 97, t 98, t 99],
 m 93 100,
 o 101 (.ext 0) [t 93],
 o 102 (.ext 1) [t 93],
 m 13 101,
 m 14 102]
def b32_27 : EC := .rg b32_27l false
@[simp] theorem b32_27e : Rg b32_27 b32_27l false := rgE _ _
@[simp] def b32_28l : List EO := [m 103 14]
def b32_28 : EC := .rg b32_28l false
@[simp] theorem b32_28e : Rg b32_28 b32_28l false := rgE _ _
@[simp] def b32_29l : List EO := [o 104 (.bsl 3) [],
 o 105 (.faddr 2) [t 3],
 o 106 (.load 1 false) [t 105],
 m 107 8,
 m 108 6,
 o 109 (.bin .sub) [t 107, t 108],
 o 110 (.slL 3 false true false) [t 106, t 109],
 o 111 (.appB 103 3 24) [t 104, t 110],
 m 112 13,
 o 113 (.build [.t (.int .i64 0), .t (.int .i64 0), .t (.int .i64 0)] [(0, 1), (1, 1), (2, 1)]) [i 1, t 112, i 0],
 o 114 (.bsl 3) [t 113],
 o 115 (.appB 103 3 24) [t 111, t 114],
 o 116 (.faddr 2) [t 3],
 u (.store 1) [t 116, t 115]]
def b32_29 : EC := .rg b32_29l false
@[simp] theorem b32_29e : Rg b32_29 b32_29l false := rgE _ _
def b32_30 : EC := .sq b32_29 (.ex 1)
@[simp] theorem b32_30e : Sq b32_30 b32_29 (.ex 1) := sqE _ _
def b32_31 : EC := .cd (t 103) b32_30 .skip
@[simp] theorem b32_31e : Cd b32_31 (t 103) b32_30 .skip := cdE _ _ _
def b32_32 : EC := .sq b32_28 b32_31
@[simp] theorem b32_32e : Sq b32_32 b32_28 b32_31 := sqE _ _
def b32_33 : EC := .sq b32_27 b32_32
@[simp] theorem b32_33e : Sq b32_33 b32_27 b32_32 := sqE _ _
def b32_34 : EC := .sq b32_26 b32_33
@[simp] theorem b32_34e : Sq b32_34 b32_26 b32_33 := sqE _ _
def b32_35 : EC := .sq b32_22 b32_34
@[simp] theorem b32_35e : Sq b32_35 b32_22 b32_34 := sqE _ _
def b32_36 : EC := .cd (t 75) b32_35 .skip
@[simp] theorem b32_36e : Cd b32_36 (t 75) b32_35 .skip := cdE _ _ _
def b32_37 : EC := .sq b32_21 b32_36
@[simp] theorem b32_37e : Sq b32_37 b32_21 b32_36 := sqE _ _
@[simp] def b32_38l : List EO := [o 117 (.faddr 2) [t 3],
 o 118 (.load 1 false) [t 117],
 o 119 (.load 3 true) [t 5],
 o 120 (.bsl 3) [t 119],
 o 121 (.appB 103 3 24) [t 118, t 120],
 o 122 (.faddr 2) [t 3],
 u (.store 1) [t 122, t 121]]
def b32_38 : EC := .rg b32_38l false
@[simp] theorem b32_38e : Rg b32_38 b32_38l false := rgE _ _
def b32_39 : EC := .sq b32_37 b32_38
@[simp] theorem b32_39e : Sq b32_39 b32_37 b32_38 := sqE _ _
def b32_40 : EC := .sq b32_20 b32_39
@[simp] theorem b32_40e : Sq b32_40 b32_20 b32_39 := sqE _ _
def b32_41 : EC := .sq b32_9 b32_40
@[simp] theorem b32_41e : Sq b32_41 b32_9 b32_40 := sqE _ _
def b32_42 : EC := .sq b32_8 b32_41
@[simp] theorem b32_42e : Sq b32_42 b32_8 b32_41 := sqE _ _
def b32_43 : EC := .sq b32_7 b32_42
@[simp] theorem b32_43e : Sq b32_43 b32_7 b32_42 := sqE _ _
def b32_44 : EC := .sq b32_6 b32_43
@[simp] theorem b32_44e : Sq b32_44 b32_6 b32_43 := sqE _ _
def b32_45 : EC := .bk 1 b32_44
@[simp] theorem b32_45e : Bk b32_45 1 b32_44 := bkE _ _
@[simp] def b32_46l : List EO := [m 25 4,
 o 26 (.bin .add) [t 25, i 1],
 m 4 26]
def b32_46 : EC := .rg b32_46l false
@[simp] theorem b32_46e : Rg b32_46 b32_46l false := rgE _ _
def b32_47 : EC := .sq b32_45 b32_46
@[simp] theorem b32_47e : Sq b32_47 b32_45 b32_46 := sqE _ _
def b32_48 : EC := .sq b32_5 b32_47
@[simp] theorem b32_48e : Sq b32_48 b32_5 b32_47 := sqE _ _
def b32_49 : EC := .bk 0 (.lp b32_48)
@[simp] theorem b32_49e : Bk b32_49 0 (.lp b32_48) := bkE _ _
def b32_50 : EC := .sq b32_2 b32_49
@[simp] theorem b32_50e : Sq b32_50 b32_2 b32_49 := sqE _ _
@[simp] def b32_51l : List EO := [o 123 (.load 3 true) [t 3],
 u (.store 3) [t 2, t 123]]
def b32_51 : EC := .rg b32_51l false
@[simp] theorem b32_51e : Rg b32_51 b32_51l false := rgE _ _
def b32_52 : EC := .sq b32_51 .rt
@[simp] theorem b32_52e : Sq b32_52 b32_51 .rt := sqE _ _
def b32_53 : EC := .sq b32_50 b32_52
@[simp] theorem b32_53e : Sq b32_53 b32_50 b32_52 := sqE _ _
def b32_54 : EC := .sq b32_1 b32_53
@[simp] theorem b32_54e : Sq b32_54 b32_1 b32_53 := sqE _ _
def b32_55 : EC := .sq b32_0 b32_54
@[simp] theorem b32_55e : Sq b32_55 b32_0 b32_54 := sqE _ _
def b_tallystoneref34_Fold_32 : EC := b32_55
theorem kb_32 : ecB Tryd.prog 32 = some (124, b_tallystoneref34_Fold_32, [.ce 2 3 true]) := by kernel_rfl

/-- tallystone/tallystonelaw33.few -/
@[simp] def c33_0l : List EO := [o 4 .mv [b false]]
def c33_0 : EC := .rg c33_0l false
@[simp] theorem c33_0e : Rg c33_0 c33_0l false := rgE _ _
@[simp] def c33_1l : List EO := [m 5 0,
 o 6 (.call 17) [t 5],
 m 7 6,
 y 8 7 .mv [t 1],
 y 9 7 .lenL [t 8],
 y 10 7 (.bin .leq) [t 9, i 210],
 o 11 .pick [t 7, t 10, b false],
 m 4 11]
def c33_1 : EC := .rg c33_1l false
@[simp] theorem c33_1e : Rg c33_1 c33_1l false := rgE _ _
def c33_2 : EC := .sq c33_1 .rt
@[simp] theorem c33_2e : Sq c33_2 c33_1 .rt := sqE _ _
def c33_3 : EC := .sq c33_0 c33_2
@[simp] theorem c33_3e : Sq c33_3 c33_0 c33_2 := sqE _ _
def c_tallystonelaw33_few_33 : EC := c33_3
theorem k_33 : ecF Tryd.prog 33 = some (12, c_tallystonelaw33_few_33, [.tm 4]) := by kernel_rfl

/-- tallystone/check.Check -/
@[simp] def c34_0l : List EO := [o 4 .mv [i 0],
 o 5 .mv [i 0]]
def c34_0 : EC := .rg c34_0l false
@[simp] theorem c34_0e : Rg c34_0 c34_0l false := rgE _ _
@[simp] def c34_1l : List EO := [m 10 0,
 o 11 (.call 50) [t 10],
 o 12 (.un .not) [t 11],
 m 13 12,
 n 14 13 .mv [t 1],
 n 15 13 (.call 68) [t 14, b true],
 n 16 13 (.un .not) [t 15],
 o 17 .pick [t 13, b true, t 16]]
def c34_1 : EC := .rg c34_1l false
@[simp] theorem c34_1e : Rg c34_1 c34_1l false := rgE _ _
@[simp] def c34_2l : List EO := [o 4 .mv [i 0],
 o 5 .mv [i 1]]
def c34_2 : EC := .rg c34_2l false
@[simp] theorem c34_2e : Rg c34_2 c34_2l false := rgE _ _
def c34_3 : EC := .sq c34_2 .rt
@[simp] theorem c34_3e : Sq c34_3 c34_2 .rt := sqE _ _
def c34_4 : EC := .cd (t 17) c34_3 .skip
@[simp] theorem c34_4e : Cd c34_4 (t 17) c34_3 .skip := cdE _ _ _
def c34_5 : EC := .sq c34_1 c34_4
@[simp] theorem c34_5e : Sq c34_5 c34_1 c34_4 := sqE _ _
@[simp] def c34_6l : List EO := [o 18 .mkmap [],
 m 6 18]
def c34_6 : EC := .rg c34_6l false
@[simp] theorem c34_6e : Rg c34_6 c34_6l false := rgE _ _
@[simp] def c34_7l : List EO := [m 19 0,
 o 20 .lenL [t 19],
 o 21 .mv [i 0]]
def c34_7 : EC := .rg c34_7l false
@[simp] theorem c34_7e : Rg c34_7 c34_7l false := rgE _ _
@[simp] def c34_8l : List EO := [o 22 (.bin .lss) [t 21, t 20]]
def c34_8 : EC := .rg c34_8l false
@[simp] theorem c34_8e : Rg c34_8 c34_8l false := rgE _ _
def c34_9 : EC := .cd (t 22) .skip (.ex 0)
@[simp] theorem c34_9e : Cd c34_9 (t 22) .skip (.ex 0) := cdE _ _ _
@[simp] def c34_10l : List EO := [m 23 21,
 o 24 (.iaS 4) [t 19, t 21],
 o 25 (.load 4 true) [t 24],
 o 8 (.alloc [.t (.str []), .t (.bool false), .snil, .t (.int .i64 0)]) [],
 m 7 23,
 u (.store 4) [t 8, t 25]]
def c34_10 : EC := .rg c34_10l false
@[simp] theorem c34_10e : Rg c34_10 c34_10l false := rgE _ _
@[simp] def c34_11l : List EO := [m 26 6,
 o 27 (.faddr 0) [t 8],
 o 28 (.load 1 false) [t 27],
 o 29 (.lkp false [2] false false [.t (.bool false)]) [t 26, t 28]]
def c34_11 : EC := .rg c34_11l false
@[simp] theorem c34_11e : Rg c34_11 c34_11l false := rgE _ _
@[simp] def c34_12l : List EO := [m 30 7,
 m 4 30,
 o 5 .mv [i 9]]
def c34_12 : EC := .rg c34_12l false
@[simp] theorem c34_12e : Rg c34_12 c34_12l false := rgE _ _
def c34_13 : EC := .sq c34_12 .rt
@[simp] theorem c34_13e : Sq c34_13 c34_12 .rt := sqE _ _
def c34_14 : EC := .cd (t 29) c34_13 .skip
@[simp] theorem c34_14e : Cd c34_14 (t 29) c34_13 .skip := cdE _ _ _
def c34_15 : EC := .sq c34_11 c34_14
@[simp] theorem c34_15e : Sq c34_15 c34_11 c34_14 := sqE _ _
@[simp] def c34_16l : List EO := [m 31 6,
 o 32 (.faddr 0) [t 8],
 o 33 (.load 1 false) [t 32],
 u (.mup false [2]) [t 31, t 33, b true]]
def c34_16 : EC := .rg c34_16l false
@[simp] theorem c34_16e : Rg c34_16 c34_16l false := rgE _ _
@[simp] def c34_17l : List EO := [o 34 (.load 4 true) [t 8],
 m 35 1,
 o 36 (.call 69) [t 34, t 35],
 m 9 36]
def c34_17 : EC := .rg c34_17l false
@[simp] theorem c34_17e : Rg c34_17 c34_17l false := rgE _ _
@[simp] def c34_18l : List EO := [m 37 9,
 o 38 (.bin .neq) [t 37, i 0]]
def c34_18 : EC := .rg c34_18l false
@[simp] theorem c34_18e : Rg c34_18 c34_18l false := rgE _ _
@[simp] def c34_19l : List EO := [m 39 7,
 m 40 9,
 m 4 39,
 m 5 40]
def c34_19 : EC := .rg c34_19l false
@[simp] theorem c34_19e : Rg c34_19 c34_19l false := rgE _ _
def c34_20 : EC := .sq c34_19 .rt
@[simp] theorem c34_20e : Sq c34_20 c34_19 .rt := sqE _ _
def c34_21 : EC := .cd (t 38) c34_20 .skip
@[simp] theorem c34_21e : Cd c34_21 (t 38) c34_20 .skip := cdE _ _ _
def c34_22 : EC := .sq c34_18 c34_21
@[simp] theorem c34_22e : Sq c34_22 c34_18 c34_21 := sqE _ _
def c34_23 : EC := .sq c34_17 c34_22
@[simp] theorem c34_23e : Sq c34_23 c34_17 c34_22 := sqE _ _
def c34_24 : EC := .sq c34_16 c34_23
@[simp] theorem c34_24e : Sq c34_24 c34_16 c34_23 := sqE _ _
def c34_25 : EC := .sq c34_15 c34_24
@[simp] theorem c34_25e : Sq c34_25 c34_15 c34_24 := sqE _ _
def c34_26 : EC := .sq c34_10 c34_25
@[simp] theorem c34_26e : Sq c34_26 c34_10 c34_25 := sqE _ _
def c34_27 : EC := .bk 1 c34_26
@[simp] theorem c34_27e : Bk c34_27 1 c34_26 := bkE _ _
@[simp] def c34_28l : List EO := [o 41 (.bin .add) [t 21, i 1],
 m 21 41]
def c34_28 : EC := .rg c34_28l false
@[simp] theorem c34_28e : Rg c34_28 c34_28l false := rgE _ _
def c34_29 : EC := .sq c34_27 c34_28
@[simp] theorem c34_29e : Sq c34_29 c34_27 c34_28 := sqE _ _
def c34_30 : EC := .sq c34_9 c34_29
@[simp] theorem c34_30e : Sq c34_30 c34_9 c34_29 := sqE _ _
def c34_31 : EC := .sq c34_8 c34_30
@[simp] theorem c34_31e : Sq c34_31 c34_8 c34_30 := sqE _ _
def c34_32 : EC := .bk 0 (.lp c34_31)
@[simp] theorem c34_32e : Bk c34_32 0 (.lp c34_31) := bkE _ _
def c34_33 : EC := .sq c34_7 c34_32
@[simp] theorem c34_33e : Sq c34_33 c34_7 c34_32 := sqE _ _
@[simp] def c34_34l : List EO := [o 4 .mv [i 0],
 o 5 .mv [i 0]]
def c34_34 : EC := .rg c34_34l false
@[simp] theorem c34_34e : Rg c34_34 c34_34l false := rgE _ _
def c34_35 : EC := .sq c34_34 .rt
@[simp] theorem c34_35e : Sq c34_35 c34_34 .rt := sqE _ _
def c34_36 : EC := .sq c34_33 c34_35
@[simp] theorem c34_36e : Sq c34_36 c34_33 c34_35 := sqE _ _
def c34_37 : EC := .sq c34_6 c34_36
@[simp] theorem c34_37e : Sq c34_37 c34_6 c34_36 := sqE _ _
def c34_38 : EC := .sq c34_5 c34_37
@[simp] theorem c34_38e : Sq c34_38 c34_5 c34_37 := sqE _ _
def c34_39 : EC := .sq c34_0 c34_38
@[simp] theorem c34_39e : Sq c34_39 c34_0 c34_38 := sqE _ _
def c_check_Check_34 : EC := c34_39
theorem k_34 : ecF Tryd.prog 34 = some (42, c_check_Check_34, [.tm 4, .tm 5]) := by kernel_rfl

/-- tallystone/tallystonelaw32.Program -/
@[simp] def c35_0l : List EO := [o 2 .mv [c (.snil)]]
def c35_0 : EC := .rg c35_0l false
@[simp] theorem c35_0e : Rg c35_0 c35_0l false := rgE _ _
@[simp] def c35_1l : List EO := [o 3 .mv [c (.snil)]]
def c35_1 : EC := .rg c35_1l false
@[simp] theorem c35_1e : Rg c35_1 c35_1l false := rgE _ _
@[simp] def c35_2l : List EO := [o 4 .mv [i 0]]
def c35_2 : EC := .rg c35_2l false
@[simp] theorem c35_2e : Rg c35_2 c35_2l false := rgE _ _
@[simp] def c35_3l : List EO := [m 8 4,
 m 9 0,
 o 10 .lenL [t 9],
 o 11 (.bin .lss) [t 8, t 10]]
def c35_3 : EC := .rg c35_3l false
@[simp] theorem c35_3e : Rg c35_3 c35_3l false := rgE _ _
def c35_4 : EC := .cd (t 11) .skip (.ex 0)
@[simp] theorem c35_4e : Cd c35_4 (t 11) .skip (.ex 0) := cdE _ _ _
def c35_5 : EC := .sq c35_3 c35_4
@[simp] theorem c35_5e : Sq c35_5 c35_3 c35_4 := sqE _ _
@[simp] def c35_6l : List EO := [m 14 0,
 m 15 4,
 o 16 (.iaS 4) [t 14, t 15],
 o 17 (.faddr 0) [t 16],
 o 18 (.load 1 false) [t 17],
 m 19 0,
 m 20 4,
 o 21 (.iaS 4) [t 19, t 20],
 o 22 (.faddr 1) [t 21],
 o 23 (.load 1 false) [t 22],
 m 24 0,
 m 25 4,
 o 26 (.iaS 4) [t 24, t 25],
 o 27 (.faddr 3) [t 26],
 o 28 (.load 1 false) [t 27],
 o 29 (.build [.t (.str []), .t (.bool false), .snil, .t (.int .i64 0)] [(0, 1), (1, 1), (3, 1)]) [t 18, t 23, t 28],
 o 5 (.alloc [.t (.str []), .t (.bool false), .snil, .t (.int .i64 0)]) [],
 u (.store 4) [t 5, t 29]]
def c35_6 : EC := .rg c35_6l true
@[simp] theorem c35_6e : Rg c35_6 c35_6l true := rgE _ _
@[simp] def c35_7l : List EO := [o 6 .mv [i 0]]
def c35_7 : EC := .rg c35_7l false
@[simp] theorem c35_7e : Rg c35_7 c35_7l false := rgE _ _
@[simp] def c35_8l : List EO := [m 30 6,
 m 31 0,
 m 32 4,
 o 33 (.iaS 4) [t 31, t 32],
 o 34 (.faddr 2) [t 33],
 o 35 (.load 1 false) [t 34],
 o 36 .lenL [t 35],
 o 37 (.bin .lss) [t 30, t 36]]
def c35_8 : EC := .rg c35_8l false
@[simp] theorem c35_8e : Rg c35_8 c35_8l false := rgE _ _
def c35_9 : EC := .cd (t 37) .skip (.ex 2)
@[simp] theorem c35_9e : Cd c35_9 (t 37) .skip (.ex 2) := cdE _ _ _
def c35_10 : EC := .sq c35_8 c35_9
@[simp] theorem c35_10e : Sq c35_10 c35_8 c35_9 := sqE _ _
@[simp] def c35_11l : List EO := [m 40 0,
 m 41 4,
 o 42 (.iaS 4) [t 40, t 41],
 o 43 (.faddr 2) [t 42],
 o 44 (.load 1 false) [t 43],
 m 45 6,
 o 46 (.iaS 9) [t 44, t 45],
 o 47 (.load 9 true) [t 46],
 o 7 (.alloc [.t (.int .i64 0), .t (.int .i64 0), .t (.str []), .t (.int .i64 0), .t (.int .i64 0), .t (.int .i64 0), .t (.int .i64 0), .t (.str []), .snil]) [],
 u (.store 9) [t 7, t 47]]
def c35_11 : EC := .rg c35_11l false
@[simp] theorem c35_11e : Rg c35_11 c35_11l false := rgE _ _
@[simp] def c35_12l : List EO := [o 48 (.faddr 2) [t 5],
 o 49 (.load 1 false) [t 48],
 o 50 (.faddr 0) [t 7],
 o 51 (.load 1 false) [t 50],
 o 52 (.faddr 1) [t 7],
 o 53 (.load 1 false) [t 52],
 o 54 (.faddr 2) [t 7],
 o 55 (.load 1 false) [t 54],
 o 56 (.faddr 3) [t 7],
 o 57 (.load 6 true) [t 56],
 o 58 (.call 19) [t 57],
 o 59 (.build [.t (.int .i64 0), .t (.int .i64 0), .t (.str []), .t (.int .i64 0), .t (.int .i64 0), .t (.int .i64 0), .t (.int .i64 0), .t (.str []), .snil] [(0, 1), (1, 1), (2, 1), (3, 6)]) [t 51, t 53, t 55, t 58],
 o 60 (.bsl 9) [t 59],
 o 61 (.app 93 9 104) [t 49, t 60],
 o 62 (.faddr 2) [t 5],
 u (.store 1) [t 62, t 61]]
def c35_12 : EC := .rg c35_12l true
@[simp] theorem c35_12e : Rg c35_12 c35_12l true := rgE _ _
def c35_13 : EC := .sq c35_11 c35_12
@[simp] theorem c35_13e : Sq c35_13 c35_11 c35_12 := sqE _ _
def c35_14 : EC := .bk 3 c35_13
@[simp] theorem c35_14e : Bk c35_14 3 c35_13 := bkE _ _
@[simp] def c35_15l : List EO := [m 38 6,
 o 39 (.bin .add) [t 38, i 1],
 m 6 39]
def c35_15 : EC := .rg c35_15l false
@[simp] theorem c35_15e : Rg c35_15 c35_15l false := rgE _ _
def c35_16 : EC := .sq c35_14 c35_15
@[simp] theorem c35_16e : Sq c35_16 c35_14 c35_15 := sqE _ _
def c35_17 : EC := .sq c35_10 c35_16
@[simp] theorem c35_17e : Sq c35_17 c35_10 c35_16 := sqE _ _
def c35_18 : EC := .bk 2 (.lp c35_17)
@[simp] theorem c35_18e : Bk c35_18 2 (.lp c35_17) := bkE _ _
def c35_19 : EC := .sq c35_7 c35_18
@[simp] theorem c35_19e : Sq c35_19 c35_7 c35_18 := sqE _ _
@[simp] def c35_20l : List EO := [m 63 3,
 o 64 (.load 4 true) [t 5],
 o 65 (.bsl 4) [t 64],
 o 66 (.app 96 4 56) [t 63, t 65],
 m 3 66]
def c35_20 : EC := .rg c35_20l false
@[simp] theorem c35_20e : Rg c35_20 c35_20l false := rgE _ _
def c35_21 : EC := .sq c35_19 c35_20
@[simp] theorem c35_21e : Sq c35_21 c35_19 c35_20 := sqE _ _
def c35_22 : EC := .sq c35_6 c35_21
@[simp] theorem c35_22e : Sq c35_22 c35_6 c35_21 := sqE _ _
def c35_23 : EC := .bk 1 c35_22
@[simp] theorem c35_23e : Bk c35_23 1 c35_22 := bkE _ _
@[simp] def c35_24l : List EO := [m 12 4,
 o 13 (.bin .add) [t 12, i 1],
 m 4 13]
def c35_24 : EC := .rg c35_24l false
@[simp] theorem c35_24e : Rg c35_24 c35_24l false := rgE _ _
def c35_25 : EC := .sq c35_23 c35_24
@[simp] theorem c35_25e : Sq c35_25 c35_23 c35_24 := sqE _ _
def c35_26 : EC := .sq c35_5 c35_25
@[simp] theorem c35_26e : Sq c35_26 c35_5 c35_25 := sqE _ _
def c35_27 : EC := .bk 0 (.lp c35_26)
@[simp] theorem c35_27e : Bk c35_27 0 (.lp c35_26) := bkE _ _
def c35_28 : EC := .sq c35_2 c35_27
@[simp] theorem c35_28e : Sq c35_28 c35_2 c35_27 := sqE _ _
@[simp] def c35_29l : List EO := [m 67 3,
 m 2 67]
def c35_29 : EC := .rg c35_29l false
@[simp] theorem c35_29e : Rg c35_29 c35_29l false := rgE _ _
def c35_30 : EC := .sq c35_29 .rt
@[simp] theorem c35_30e : Sq c35_30 c35_29 .rt := sqE _ _
def c35_31 : EC := .sq c35_28 c35_30
@[simp] theorem c35_31e : Sq c35_31 c35_28 c35_30 := sqE _ _
def c35_32 : EC := .sq c35_1 c35_31
@[simp] theorem c35_32e : Sq c35_32 c35_1 c35_31 := sqE _ _
def c35_33 : EC := .sq c35_0 c35_32
@[simp] theorem c35_33e : Sq c35_33 c35_0 c35_32 := sqE _ _
def c_tallystonelaw32_Program_35 : EC := c35_33
theorem k_35 : ecF Tryd.prog 35 = some (68, c_tallystonelaw32_Program_35, [.tm 2]) := by kernel_rfl

/-- tallystone/tallystonelaw32.Program, with slices that grow in boxes -/
@[simp] def b35_0l : List EO := [o 2 .mv [c (.snil)]]
def b35_0 : EC := .rg b35_0l false
@[simp] theorem b35_0e : Rg b35_0 b35_0l false := rgE _ _
@[simp] def b35_1l : List EO := [o 3 .mv [c (.snil)]]
def b35_1 : EC := .rg b35_1l false
@[simp] theorem b35_1e : Rg b35_1 b35_1l false := rgE _ _
@[simp] def b35_2l : List EO := [o 4 .mv [i 0]]
def b35_2 : EC := .rg b35_2l false
@[simp] theorem b35_2e : Rg b35_2 b35_2l false := rgE _ _
@[simp] def b35_3l : List EO := [m 8 4,
 m 9 0,
 o 10 .lenL [t 9],
 o 11 (.bin .lss) [t 8, t 10]]
def b35_3 : EC := .rg b35_3l false
@[simp] theorem b35_3e : Rg b35_3 b35_3l false := rgE _ _
def b35_4 : EC := .cd (t 11) .skip (.ex 0)
@[simp] theorem b35_4e : Cd b35_4 (t 11) .skip (.ex 0) := cdE _ _ _
def b35_5 : EC := .sq b35_3 b35_4
@[simp] theorem b35_5e : Sq b35_5 b35_3 b35_4 := sqE _ _
@[simp] def b35_6l : List EO := [m 14 0,
 m 15 4,
 o 16 (.iaS 4) [t 14, t 15],
 o 17 (.faddr 0) [t 16],
 o 18 (.load 1 false) [t 17],
 m 19 0,
 m 20 4,
 o 21 (.iaS 4) [t 19, t 20],
 o 22 (.faddr 1) [t 21],
 o 23 (.load 1 false) [t 22],
 m 24 0,
 m 25 4,
 o 26 (.iaS 4) [t 24, t 25],
 o 27 (.faddr 3) [t 26],
 o 28 (.load 1 false) [t 27],
 o 29 (.build [.t (.str []), .t (.bool false), .snil, .t (.int .i64 0)] [(0, 1), (1, 1), (3, 1)]) [t 18, t 23, t 28],
 o 5 (.alloc [.t (.str []), .t (.bool false), .snil, .t (.int .i64 0)]) [],
 u (.store 4) [t 5, t 29]]
def b35_6 : EC := .rg b35_6l true
@[simp] theorem b35_6e : Rg b35_6 b35_6l true := rgE _ _
@[simp] def b35_7l : List EO := [o 6 .mv [i 0]]
def b35_7 : EC := .rg b35_7l false
@[simp] theorem b35_7e : Rg b35_7 b35_7l false := rgE _ _
@[simp] def b35_8l : List EO := [m 30 6,
 m 31 0,
 m 32 4,
 o 33 (.iaS 4) [t 31, t 32],
 o 34 (.faddr 2) [t 33],
 o 35 (.load 1 false) [t 34],
 o 36 .lenL [t 35],
 o 37 (.bin .lss) [t 30, t 36]]
def b35_8 : EC := .rg b35_8l false
@[simp] theorem b35_8e : Rg b35_8 b35_8l false := rgE _ _
def b35_9 : EC := .cd (t 37) .skip (.ex 2)
@[simp] theorem b35_9e : Cd b35_9 (t 37) .skip (.ex 2) := cdE _ _ _
def b35_10 : EC := .sq b35_8 b35_9
@[simp] theorem b35_10e : Sq b35_10 b35_8 b35_9 := sqE _ _
@[simp] def b35_11l : List EO := [m 40 0,
 m 41 4,
 o 42 (.iaS 4) [t 40, t 41],
 o 43 (.faddr 2) [t 42],
 o 44 (.load 1 false) [t 43],
 m 45 6,
 o 46 (.iaS 9) [t 44, t 45],
 o 47 (.load 9 true) [t 46],
 o 7 (.alloc [.t (.int .i64 0), .t (.int .i64 0), .t (.str []), .t (.int .i64 0), .t (.int .i64 0), .t (.int .i64 0), .t (.int .i64 0), .t (.str []), .snil]) [],
 u (.store 9) [t 7, t 47]]
def b35_11 : EC := .rg b35_11l false
@[simp] theorem b35_11e : Rg b35_11 b35_11l false := rgE _ _
@[simp] def b35_12l : List EO := [o 48 (.faddr 2) [t 5],
 o 49 (.load 1 false) [t 48],
 o 50 (.faddr 0) [t 7],
 o 51 (.load 1 false) [t 50],
 o 52 (.faddr 1) [t 7],
 o 53 (.load 1 false) [t 52],
 o 54 (.faddr 2) [t 7],
 o 55 (.load 1 false) [t 54],
 o 56 (.faddr 3) [t 7],
 o 57 (.load 6 true) [t 56],
 o 58 (.call 19) [t 57],
 o 59 (.build [.t (.int .i64 0), .t (.int .i64 0), .t (.str []), .t (.int .i64 0), .t (.int .i64 0), .t (.int .i64 0), .t (.int .i64 0), .t (.str []), .snil] [(0, 1), (1, 1), (2, 1), (3, 6)]) [t 51, t 53, t 55, t 58],
 o 60 (.bsl 9) [t 59],
 o 61 (.appB 93 9 104) [t 49, t 60],
 o 62 (.faddr 2) [t 5],
 u (.store 1) [t 62, t 61]]
def b35_12 : EC := .rg b35_12l true
@[simp] theorem b35_12e : Rg b35_12 b35_12l true := rgE _ _
def b35_13 : EC := .sq b35_11 b35_12
@[simp] theorem b35_13e : Sq b35_13 b35_11 b35_12 := sqE _ _
def b35_14 : EC := .bk 3 b35_13
@[simp] theorem b35_14e : Bk b35_14 3 b35_13 := bkE _ _
@[simp] def b35_15l : List EO := [m 38 6,
 o 39 (.bin .add) [t 38, i 1],
 m 6 39]
def b35_15 : EC := .rg b35_15l false
@[simp] theorem b35_15e : Rg b35_15 b35_15l false := rgE _ _
def b35_16 : EC := .sq b35_14 b35_15
@[simp] theorem b35_16e : Sq b35_16 b35_14 b35_15 := sqE _ _
def b35_17 : EC := .sq b35_10 b35_16
@[simp] theorem b35_17e : Sq b35_17 b35_10 b35_16 := sqE _ _
def b35_18 : EC := .bk 2 (.lp b35_17)
@[simp] theorem b35_18e : Bk b35_18 2 (.lp b35_17) := bkE _ _
def b35_19 : EC := .sq b35_7 b35_18
@[simp] theorem b35_19e : Sq b35_19 b35_7 b35_18 := sqE _ _
@[simp] def b35_20l : List EO := [m 63 3,
 o 64 (.load 4 true) [t 5],
 o 65 (.bsl 4) [t 64],
 o 66 (.appB 96 4 56) [t 63, t 65],
 m 3 66]
def b35_20 : EC := .rg b35_20l false
@[simp] theorem b35_20e : Rg b35_20 b35_20l false := rgE _ _
def b35_21 : EC := .sq b35_19 b35_20
@[simp] theorem b35_21e : Sq b35_21 b35_19 b35_20 := sqE _ _
def b35_22 : EC := .sq b35_6 b35_21
@[simp] theorem b35_22e : Sq b35_22 b35_6 b35_21 := sqE _ _
def b35_23 : EC := .bk 1 b35_22
@[simp] theorem b35_23e : Bk b35_23 1 b35_22 := bkE _ _
@[simp] def b35_24l : List EO := [m 12 4,
 o 13 (.bin .add) [t 12, i 1],
 m 4 13]
def b35_24 : EC := .rg b35_24l false
@[simp] theorem b35_24e : Rg b35_24 b35_24l false := rgE _ _
def b35_25 : EC := .sq b35_23 b35_24
@[simp] theorem b35_25e : Sq b35_25 b35_23 b35_24 := sqE _ _
def b35_26 : EC := .sq b35_5 b35_25
@[simp] theorem b35_26e : Sq b35_26 b35_5 b35_25 := sqE _ _
def b35_27 : EC := .bk 0 (.lp b35_26)
@[simp] theorem b35_27e : Bk b35_27 0 (.lp b35_26) := bkE _ _
def b35_28 : EC := .sq b35_2 b35_27
@[simp] theorem b35_28e : Sq b35_28 b35_2 b35_27 := sqE _ _
@[simp] def b35_29l : List EO := [m 67 3,
 m 2 67]
def b35_29 : EC := .rg b35_29l false
@[simp] theorem b35_29e : Rg b35_29 b35_29l false := rgE _ _
def b35_30 : EC := .sq b35_29 .rt
@[simp] theorem b35_30e : Sq b35_30 b35_29 .rt := sqE _ _
def b35_31 : EC := .sq b35_28 b35_30
@[simp] theorem b35_31e : Sq b35_31 b35_28 b35_30 := sqE _ _
def b35_32 : EC := .sq b35_1 b35_31
@[simp] theorem b35_32e : Sq b35_32 b35_1 b35_31 := sqE _ _
def b35_33 : EC := .sq b35_0 b35_32
@[simp] theorem b35_33e : Sq b35_33 b35_0 b35_32 := sqE _ _
def b_tallystonelaw32_Program_35 : EC := b35_33
theorem kb_35 : ecB Tryd.prog 35 = some (68, b_tallystonelaw32_Program_35, [.tm 2]) := by kernel_rfl

/-- tallystone/tallystoneref33.Check -/
@[simp] def c36_0l : List EO := [o 4 .mv [i 0],
 o 5 .mv [i 0]]
def c36_0 : EC := .rg c36_0l false
@[simp] theorem c36_0e : Rg c36_0 c36_0l false := rgE _ _
@[simp] def c36_1l : List EO := [m 9 0,
 o 10 (.call 40) [t 9],
 o 11 (.un .not) [t 10],
 m 12 11,
 n 13 12 .mv [t 1],
 n 14 12 (.call 70) [t 13, b true],
 n 15 12 (.un .not) [t 14],
 o 16 .pick [t 12, b true, t 15]]
def c36_1 : EC := .rg c36_1l false
@[simp] theorem c36_1e : Rg c36_1 c36_1l false := rgE _ _
@[simp] def c36_2l : List EO := [o 4 .mv [i 0],
 o 5 .mv [i 1]]
def c36_2 : EC := .rg c36_2l false
@[simp] theorem c36_2e : Rg c36_2 c36_2l false := rgE _ _
def c36_3 : EC := .sq c36_2 .rt
@[simp] theorem c36_3e : Sq c36_3 c36_2 .rt := sqE _ _
def c36_4 : EC := .cd (t 16) c36_3 .skip
@[simp] theorem c36_4e : Cd c36_4 (t 16) c36_3 .skip := cdE _ _ _
def c36_5 : EC := .sq c36_1 c36_4
@[simp] theorem c36_5e : Sq c36_5 c36_1 c36_4 := sqE _ _
@[simp] def c36_6l : List EO := [o 6 .mv [c (.snil)]]
def c36_6 : EC := .rg c36_6l false
@[simp] theorem c36_6e : Rg c36_6 c36_6l false := rgE _ _
@[simp] def c36_7l : List EO := [o 7 .mv [i 0]]
def c36_7 : EC := .rg c36_7l false
@[simp] theorem c36_7e : Rg c36_7 c36_7l false := rgE _ _
@[simp] def c36_8l : List EO := [m 17 7,
 m 18 0,
 o 19 .lenL [t 18],
 o 20 (.bin .lss) [t 17, t 19]]
def c36_8 : EC := .rg c36_8l false
@[simp] theorem c36_8e : Rg c36_8 c36_8l false := rgE _ _
def c36_9 : EC := .cd (t 20) .skip (.ex 0)
@[simp] theorem c36_9e : Cd c36_9 (t 20) .skip (.ex 0) := cdE _ _ _
def c36_10 : EC := .sq c36_8 c36_9
@[simp] theorem c36_10e : Sq c36_10 c36_8 c36_9 := sqE _ _
@[simp] def c36_11l : List EO := [m 23 6,
 m 24 0,
 m 25 7,
 o 26 (.iaS 4) [t 24, t 25],
 o 27 (.faddr 0) [t 26],
 o 28 (.load 1 false) [t 27],
 o 29 (.call 37) [t 23, t 28]]
def c36_11 : EC := .rg c36_11l false
@[simp] theorem c36_11e : Rg c36_11 c36_11l false := rgE _ _
@[simp] def c36_12l : List EO := [m 30 7,
 m 4 30,
 o 5 .mv [i 9]]
def c36_12 : EC := .rg c36_12l false
@[simp] theorem c36_12e : Rg c36_12 c36_12l false := rgE _ _
def c36_13 : EC := .sq c36_12 .rt
@[simp] theorem c36_13e : Sq c36_13 c36_12 .rt := sqE _ _
def c36_14 : EC := .cd (t 29) c36_13 .skip
@[simp] theorem c36_14e : Cd c36_14 (t 29) c36_13 .skip := cdE _ _ _
def c36_15 : EC := .sq c36_11 c36_14
@[simp] theorem c36_15e : Sq c36_15 c36_11 c36_14 := sqE _ _
@[simp] def c36_16l : List EO := [m 31 6,
 m 32 0,
 m 33 7,
 o 34 (.iaS 4) [t 32, t 33],
 o 35 (.faddr 0) [t 34],
 o 36 (.load 1 false) [t 35],
 o 37 (.bsl 1) [t 36],
 o 38 (.app 9 1 16) [t 31, t 37],
 m 6 38]
def c36_16 : EC := .rg c36_16l false
@[simp] theorem c36_16e : Rg c36_16 c36_16l false := rgE _ _
@[simp] def c36_17l : List EO := [m 39 0,
 m 40 7,
 o 41 (.iaS 4) [t 39, t 40],
 o 42 (.load 4 true) [t 41],
 m 43 1,
 o 44 (.call 71) [t 42, t 43],
 m 8 44]
def c36_17 : EC := .rg c36_17l false
@[simp] theorem c36_17e : Rg c36_17 c36_17l false := rgE _ _
@[simp] def c36_18l : List EO := [m 45 8,
 o 46 (.bin .neq) [t 45, i 0]]
def c36_18 : EC := .rg c36_18l false
@[simp] theorem c36_18e : Rg c36_18 c36_18l false := rgE _ _
@[simp] def c36_19l : List EO := [m 47 7,
 m 48 8,
 m 4 47,
 m 5 48]
def c36_19 : EC := .rg c36_19l false
@[simp] theorem c36_19e : Rg c36_19 c36_19l false := rgE _ _
def c36_20 : EC := .sq c36_19 .rt
@[simp] theorem c36_20e : Sq c36_20 c36_19 .rt := sqE _ _
def c36_21 : EC := .cd (t 46) c36_20 .skip
@[simp] theorem c36_21e : Cd c36_21 (t 46) c36_20 .skip := cdE _ _ _
def c36_22 : EC := .sq c36_18 c36_21
@[simp] theorem c36_22e : Sq c36_22 c36_18 c36_21 := sqE _ _
def c36_23 : EC := .sq c36_17 c36_22
@[simp] theorem c36_23e : Sq c36_23 c36_17 c36_22 := sqE _ _
def c36_24 : EC := .sq c36_16 c36_23
@[simp] theorem c36_24e : Sq c36_24 c36_16 c36_23 := sqE _ _
def c36_25 : EC := .sq c36_15 c36_24
@[simp] theorem c36_25e : Sq c36_25 c36_15 c36_24 := sqE _ _
def c36_26 : EC := .bk 1 c36_25
@[simp] theorem c36_26e : Bk c36_26 1 c36_25 := bkE _ _
@[simp] def c36_27l : List EO := [m 21 7,
 o 22 (.bin .add) [t 21, i 1],
 m 7 22]
def c36_27 : EC := .rg c36_27l false
@[simp] theorem c36_27e : Rg c36_27 c36_27l false := rgE _ _
def c36_28 : EC := .sq c36_26 c36_27
@[simp] theorem c36_28e : Sq c36_28 c36_26 c36_27 := sqE _ _
def c36_29 : EC := .sq c36_10 c36_28
@[simp] theorem c36_29e : Sq c36_29 c36_10 c36_28 := sqE _ _
def c36_30 : EC := .bk 0 (.lp c36_29)
@[simp] theorem c36_30e : Bk c36_30 0 (.lp c36_29) := bkE _ _
def c36_31 : EC := .sq c36_7 c36_30
@[simp] theorem c36_31e : Sq c36_31 c36_7 c36_30 := sqE _ _
@[simp] def c36_32l : List EO := [o 4 .mv [i 0],
 o 5 .mv [i 0]]
def c36_32 : EC := .rg c36_32l false
@[simp] theorem c36_32e : Rg c36_32 c36_32l false := rgE _ _
def c36_33 : EC := .sq c36_32 .rt
@[simp] theorem c36_33e : Sq c36_33 c36_32 .rt := sqE _ _
def c36_34 : EC := .sq c36_31 c36_33
@[simp] theorem c36_34e : Sq c36_34 c36_31 c36_33 := sqE _ _
def c36_35 : EC := .sq c36_6 c36_34
@[simp] theorem c36_35e : Sq c36_35 c36_6 c36_34 := sqE _ _
def c36_36 : EC := .sq c36_5 c36_35
@[simp] theorem c36_36e : Sq c36_36 c36_5 c36_35 := sqE _ _
def c36_37 : EC := .sq c36_0 c36_36
@[simp] theorem c36_37e : Sq c36_37 c36_0 c36_36 := sqE _ _
def c_tallystoneref33_Check_36 : EC := c36_37
theorem k_36 : ecF Tryd.prog 36 = some (49, c_tallystoneref33_Check_36, [.tm 4, .tm 5]) := by kernel_rfl

/-- tallystone/tallystoneref33.Check, with slices that grow in boxes -/
@[simp] def b36_0l : List EO := [o 4 .mv [i 0],
 o 5 .mv [i 0]]
def b36_0 : EC := .rg b36_0l false
@[simp] theorem b36_0e : Rg b36_0 b36_0l false := rgE _ _
@[simp] def b36_1l : List EO := [m 9 0,
 o 10 (.call 40) [t 9],
 o 11 (.un .not) [t 10],
 m 12 11,
 n 13 12 .mv [t 1],
 n 14 12 (.call 70) [t 13, b true],
 n 15 12 (.un .not) [t 14],
 o 16 .pick [t 12, b true, t 15]]
def b36_1 : EC := .rg b36_1l false
@[simp] theorem b36_1e : Rg b36_1 b36_1l false := rgE _ _
@[simp] def b36_2l : List EO := [o 4 .mv [i 0],
 o 5 .mv [i 1]]
def b36_2 : EC := .rg b36_2l false
@[simp] theorem b36_2e : Rg b36_2 b36_2l false := rgE _ _
def b36_3 : EC := .sq b36_2 .rt
@[simp] theorem b36_3e : Sq b36_3 b36_2 .rt := sqE _ _
def b36_4 : EC := .cd (t 16) b36_3 .skip
@[simp] theorem b36_4e : Cd b36_4 (t 16) b36_3 .skip := cdE _ _ _
def b36_5 : EC := .sq b36_1 b36_4
@[simp] theorem b36_5e : Sq b36_5 b36_1 b36_4 := sqE _ _
@[simp] def b36_6l : List EO := [o 6 .mv [c (.snil)]]
def b36_6 : EC := .rg b36_6l false
@[simp] theorem b36_6e : Rg b36_6 b36_6l false := rgE _ _
@[simp] def b36_7l : List EO := [o 7 .mv [i 0]]
def b36_7 : EC := .rg b36_7l false
@[simp] theorem b36_7e : Rg b36_7 b36_7l false := rgE _ _
@[simp] def b36_8l : List EO := [m 17 7,
 m 18 0,
 o 19 .lenL [t 18],
 o 20 (.bin .lss) [t 17, t 19]]
def b36_8 : EC := .rg b36_8l false
@[simp] theorem b36_8e : Rg b36_8 b36_8l false := rgE _ _
def b36_9 : EC := .cd (t 20) .skip (.ex 0)
@[simp] theorem b36_9e : Cd b36_9 (t 20) .skip (.ex 0) := cdE _ _ _
def b36_10 : EC := .sq b36_8 b36_9
@[simp] theorem b36_10e : Sq b36_10 b36_8 b36_9 := sqE _ _
@[simp] def b36_11l : List EO := [m 23 6,
 m 24 0,
 m 25 7,
 o 26 (.iaS 4) [t 24, t 25],
 o 27 (.faddr 0) [t 26],
 o 28 (.load 1 false) [t 27],
 o 29 (.call 37) [t 23, t 28]]
def b36_11 : EC := .rg b36_11l false
@[simp] theorem b36_11e : Rg b36_11 b36_11l false := rgE _ _
@[simp] def b36_12l : List EO := [m 30 7,
 m 4 30,
 o 5 .mv [i 9]]
def b36_12 : EC := .rg b36_12l false
@[simp] theorem b36_12e : Rg b36_12 b36_12l false := rgE _ _
def b36_13 : EC := .sq b36_12 .rt
@[simp] theorem b36_13e : Sq b36_13 b36_12 .rt := sqE _ _
def b36_14 : EC := .cd (t 29) b36_13 .skip
@[simp] theorem b36_14e : Cd b36_14 (t 29) b36_13 .skip := cdE _ _ _
def b36_15 : EC := .sq b36_11 b36_14
@[simp] theorem b36_15e : Sq b36_15 b36_11 b36_14 := sqE _ _
@[simp] def b36_16l : List EO := [m 31 6,
 m 32 0,
 m 33 7,
 o 34 (.iaS 4) [t 32, t 33],
 o 35 (.faddr 0) [t 34],
 o 36 (.load 1 false) [t 35],
 o 37 (.bsl 1) [t 36],
 o 38 (.appB 9 1 16) [t 31, t 37],
 m 6 38]
def b36_16 : EC := .rg b36_16l false
@[simp] theorem b36_16e : Rg b36_16 b36_16l false := rgE _ _
@[simp] def b36_17l : List EO := [m 39 0,
 m 40 7,
 o 41 (.iaS 4) [t 39, t 40],
 o 42 (.load 4 true) [t 41],
 m 43 1,
 o 44 (.call 71) [t 42, t 43],
 m 8 44]
def b36_17 : EC := .rg b36_17l false
@[simp] theorem b36_17e : Rg b36_17 b36_17l false := rgE _ _
@[simp] def b36_18l : List EO := [m 45 8,
 o 46 (.bin .neq) [t 45, i 0]]
def b36_18 : EC := .rg b36_18l false
@[simp] theorem b36_18e : Rg b36_18 b36_18l false := rgE _ _
@[simp] def b36_19l : List EO := [m 47 7,
 m 48 8,
 m 4 47,
 m 5 48]
def b36_19 : EC := .rg b36_19l false
@[simp] theorem b36_19e : Rg b36_19 b36_19l false := rgE _ _
def b36_20 : EC := .sq b36_19 .rt
@[simp] theorem b36_20e : Sq b36_20 b36_19 .rt := sqE _ _
def b36_21 : EC := .cd (t 46) b36_20 .skip
@[simp] theorem b36_21e : Cd b36_21 (t 46) b36_20 .skip := cdE _ _ _
def b36_22 : EC := .sq b36_18 b36_21
@[simp] theorem b36_22e : Sq b36_22 b36_18 b36_21 := sqE _ _
def b36_23 : EC := .sq b36_17 b36_22
@[simp] theorem b36_23e : Sq b36_23 b36_17 b36_22 := sqE _ _
def b36_24 : EC := .sq b36_16 b36_23
@[simp] theorem b36_24e : Sq b36_24 b36_16 b36_23 := sqE _ _
def b36_25 : EC := .sq b36_15 b36_24
@[simp] theorem b36_25e : Sq b36_25 b36_15 b36_24 := sqE _ _
def b36_26 : EC := .bk 1 b36_25
@[simp] theorem b36_26e : Bk b36_26 1 b36_25 := bkE _ _
@[simp] def b36_27l : List EO := [m 21 7,
 o 22 (.bin .add) [t 21, i 1],
 m 7 22]
def b36_27 : EC := .rg b36_27l false
@[simp] theorem b36_27e : Rg b36_27 b36_27l false := rgE _ _
def b36_28 : EC := .sq b36_26 b36_27
@[simp] theorem b36_28e : Sq b36_28 b36_26 b36_27 := sqE _ _
def b36_29 : EC := .sq b36_10 b36_28
@[simp] theorem b36_29e : Sq b36_29 b36_10 b36_28 := sqE _ _
def b36_30 : EC := .bk 0 (.lp b36_29)
@[simp] theorem b36_30e : Bk b36_30 0 (.lp b36_29) := bkE _ _
def b36_31 : EC := .sq b36_7 b36_30
@[simp] theorem b36_31e : Sq b36_31 b36_7 b36_30 := sqE _ _
@[simp] def b36_32l : List EO := [o 4 .mv [i 0],
 o 5 .mv [i 0]]
def b36_32 : EC := .rg b36_32l false
@[simp] theorem b36_32e : Rg b36_32 b36_32l false := rgE _ _
def b36_33 : EC := .sq b36_32 .rt
@[simp] theorem b36_33e : Sq b36_33 b36_32 .rt := sqE _ _
def b36_34 : EC := .sq b36_31 b36_33
@[simp] theorem b36_34e : Sq b36_34 b36_31 b36_33 := sqE _ _
def b36_35 : EC := .sq b36_6 b36_34
@[simp] theorem b36_35e : Sq b36_35 b36_6 b36_34 := sqE _ _
def b36_36 : EC := .sq b36_5 b36_35
@[simp] theorem b36_36e : Sq b36_36 b36_5 b36_35 := sqE _ _
def b36_37 : EC := .sq b36_0 b36_36
@[simp] theorem b36_37e : Sq b36_37 b36_0 b36_36 := sqE _ _
def b_tallystoneref33_Check_36 : EC := b36_37
theorem kb_36 : ecB Tryd.prog 36 = some (49, b_tallystoneref33_Check_36, [.tm 4, .tm 5]) := by kernel_rfl

/-- tallystone/tallystoneref31.In -/
@[simp] def c37_0l : List EO := [o 4 .mv [b false]]
def c37_0 : EC := .rg c37_0l false
@[simp] theorem c37_0e : Rg c37_0 c37_0l false := rgE _ _
@[simp] def c37_1l : List EO := [o 5 .mv [i 0]]
def c37_1 : EC := .rg c37_1l false
@[simp] theorem c37_1e : Rg c37_1 c37_1l false := rgE _ _
@[simp] def c37_2l : List EO := [m 6 5,
 m 7 0,
 o 8 .lenL [t 7],
 o 9 (.bin .lss) [t 6, t 8]]
def c37_2 : EC := .rg c37_2l false
@[simp] theorem c37_2e : Rg c37_2 c37_2l false := rgE _ _
def c37_3 : EC := .cd (t 9) .skip (.ex 0)
@[simp] theorem c37_3e : Cd c37_3 (t 9) .skip (.ex 0) := cdE _ _ _
def c37_4 : EC := .sq c37_2 c37_3
@[simp] theorem c37_4e : Sq c37_4 c37_2 c37_3 := sqE _ _
@[simp] def c37_5l : List EO := [m 12 0,
 m 13 5,
 o 14 (.iaS 1) [t 12, t 13],
 o 15 (.load 1 false) [t 14],
 m 16 1,
 o 17 (.bin .eql) [t 15, t 16]]
def c37_5 : EC := .rg c37_5l false
@[simp] theorem c37_5e : Rg c37_5 c37_5l false := rgE _ _
@[simp] def c37_6l : List EO := [o 4 .mv [b true]]
def c37_6 : EC := .rg c37_6l false
@[simp] theorem c37_6e : Rg c37_6 c37_6l false := rgE _ _
def c37_7 : EC := .sq c37_6 .rt
@[simp] theorem c37_7e : Sq c37_7 c37_6 .rt := sqE _ _
def c37_8 : EC := .cd (t 17) c37_7 .skip
@[simp] theorem c37_8e : Cd c37_8 (t 17) c37_7 .skip := cdE _ _ _
def c37_9 : EC := .sq c37_5 c37_8
@[simp] theorem c37_9e : Sq c37_9 c37_5 c37_8 := sqE _ _
def c37_10 : EC := .bk 1 c37_9
@[simp] theorem c37_10e : Bk c37_10 1 c37_9 := bkE _ _
@[simp] def c37_11l : List EO := [m 10 5,
 o 11 (.bin .add) [t 10, i 1],
 m 5 11]
def c37_11 : EC := .rg c37_11l false
@[simp] theorem c37_11e : Rg c37_11 c37_11l false := rgE _ _
def c37_12 : EC := .sq c37_10 c37_11
@[simp] theorem c37_12e : Sq c37_12 c37_10 c37_11 := sqE _ _
def c37_13 : EC := .sq c37_4 c37_12
@[simp] theorem c37_13e : Sq c37_13 c37_4 c37_12 := sqE _ _
def c37_14 : EC := .bk 0 (.lp c37_13)
@[simp] theorem c37_14e : Bk c37_14 0 (.lp c37_13) := bkE _ _
def c37_15 : EC := .sq c37_1 c37_14
@[simp] theorem c37_15e : Sq c37_15 c37_1 c37_14 := sqE _ _
@[simp] def c37_16l : List EO := [o 4 .mv [b false]]
def c37_16 : EC := .rg c37_16l false
@[simp] theorem c37_16e : Rg c37_16 c37_16l false := rgE _ _
def c37_17 : EC := .sq c37_16 .rt
@[simp] theorem c37_17e : Sq c37_17 c37_16 .rt := sqE _ _
def c37_18 : EC := .sq c37_15 c37_17
@[simp] theorem c37_18e : Sq c37_18 c37_15 c37_17 := sqE _ _
def c37_19 : EC := .sq c37_0 c37_18
@[simp] theorem c37_19e : Sq c37_19 c37_0 c37_18 := sqE _ _
def c_tallystoneref31_In_37 : EC := c37_19
theorem k_37 : ecF Tryd.prog 37 = some (18, c_tallystoneref31_In_37, [.tm 4]) := by kernel_rfl

/-- tallystone/tallystoneref33.Rename -/
@[simp] def c38_0l : List EO := [o 3 .box [t 0],
 o 6 (.alloc [.t (.int .i64 0), .t (.int .i64 0), .t (.int .i64 0), .t (.int .i64 0), .t (.str []), .snil]) []]
def c38_0 : EC := .rg c38_0l false
@[simp] theorem c38_0e : Rg c38_0 c38_0l false := rgE _ _
@[simp] def c38_1l : List EO := [o 10 (.faddr 0) [t 3],
 o 11 (.load 1 false) [t 10],
 o 12 (.bin .eql) [t 11, i 2]]
def c38_1 : EC := .rg c38_1l false
@[simp] theorem c38_1e : Rg c38_1 c38_1l false := rgE _ _
@[simp] def c38_2l : List EO := [o 7 .mv [i 0]]
def c38_2 : EC := .rg c38_2l false
@[simp] theorem c38_2e : Rg c38_2 c38_2l false := rgE _ _
@[simp] def c38_3l : List EO := [m 13 7,
 m 14 1,
 o 15 .lenL [t 14],
 o 16 (.bin .lss) [t 13, t 15],
 m 17 16,
 y 18 17 .mv [t 7],
 y 19 17 .mv [t 2],
 y 20 17 .lenL [t 19],
 y 21 17 (.bin .lss) [t 18, t 20],
 o 22 .pick [t 17, t 21, b false]]
def c38_3 : EC := .rg c38_3l false
@[simp] theorem c38_3e : Rg c38_3 c38_3l false := rgE _ _
def c38_4 : EC := .cd (t 22) .skip (.ex 0)
@[simp] theorem c38_4e : Cd c38_4 (t 22) .skip (.ex 0) := cdE _ _ _
def c38_5 : EC := .sq c38_3 c38_4
@[simp] theorem c38_5e : Sq c38_5 c38_3 c38_4 := sqE _ _
@[simp] def c38_6l : List EO := [m 25 1,
 m 26 7,
 o 27 (.iaS 1) [t 25, t 26],
 o 28 (.load 1 false) [t 27],
 o 29 (.faddr 4) [t 3],
 o 30 (.load 1 false) [t 29],
 o 31 (.bin .eql) [t 28, t 30]]
def c38_6 : EC := .rg c38_6l true
@[simp] theorem c38_6e : Rg c38_6 c38_6l true := rgE _ _
@[simp] def c38_7l : List EO := [m 32 2,
 m 33 7,
 o 34 (.iaS 1) [t 32, t 33],
 o 35 (.load 1 false) [t 34],
 o 36 (.faddr 4) [t 3],
 u (.store 1) [t 36, t 35]]
def c38_7 : EC := .rg c38_7l false
@[simp] theorem c38_7e : Rg c38_7 c38_7l false := rgE _ _
@[simp] def c38_8l : List EO := [o 37 (.load 6 true) [t 3],
 u (.store 6) [t 6, t 37]]
def c38_8 : EC := .rg c38_8l false
@[simp] theorem c38_8e : Rg c38_8 c38_8l false := rgE _ _
def c38_9 : EC := .sq c38_8 .rt
@[simp] theorem c38_9e : Sq c38_9 c38_8 .rt := sqE _ _
def c38_10 : EC := .sq c38_7 c38_9
@[simp] theorem c38_10e : Sq c38_10 c38_7 c38_9 := sqE _ _
def c38_11 : EC := .cd (t 31) c38_10 .skip
@[simp] theorem c38_11e : Cd c38_11 (t 31) c38_10 .skip := cdE _ _ _
def c38_12 : EC := .sq c38_6 c38_11
@[simp] theorem c38_12e : Sq c38_12 c38_6 c38_11 := sqE _ _
def c38_13 : EC := .bk 1 c38_12
@[simp] theorem c38_13e : Bk c38_13 1 c38_12 := bkE _ _
@[simp] def c38_14l : List EO := [m 23 7,
 o 24 (.bin .add) [t 23, i 1],
 m 7 24]
def c38_14 : EC := .rg c38_14l false
@[simp] theorem c38_14e : Rg c38_14 c38_14l false := rgE _ _
def c38_15 : EC := .sq c38_13 c38_14
@[simp] theorem c38_15e : Sq c38_15 c38_13 c38_14 := sqE _ _
def c38_16 : EC := .sq c38_5 c38_15
@[simp] theorem c38_16e : Sq c38_16 c38_5 c38_15 := sqE _ _
def c38_17 : EC := .bk 0 (.lp c38_16)
@[simp] theorem c38_17e : Bk c38_17 0 (.lp c38_16) := bkE _ _
def c38_18 : EC := .sq c38_2 c38_17
@[simp] theorem c38_18e : Sq c38_18 c38_2 c38_17 := sqE _ _
@[simp] def c38_19l : List EO := [o 38 (.load 6 true) [t 3],
 u (.store 6) [t 6, t 38]]
def c38_19 : EC := .rg c38_19l false
@[simp] theorem c38_19e : Rg c38_19 c38_19l false := rgE _ _
def c38_20 : EC := .sq c38_19 .rt
@[simp] theorem c38_20e : Sq c38_20 c38_19 .rt := sqE _ _
def c38_21 : EC := .sq c38_18 c38_20
@[simp] theorem c38_21e : Sq c38_21 c38_18 c38_20 := sqE _ _
def c38_22 : EC := .cd (t 12) c38_21 .skip
@[simp] theorem c38_22e : Cd c38_22 (t 12) c38_21 .skip := cdE _ _ _
def c38_23 : EC := .sq c38_1 c38_22
@[simp] theorem c38_23e : Sq c38_23 c38_1 c38_22 := sqE _ _
@[simp] def c38_24l : List EO := [o 8 .mv [c (.snil)]]
def c38_24 : EC := .rg c38_24l false
@[simp] theorem c38_24e : Rg c38_24 c38_24l false := rgE _ _
@[simp] def c38_25l : List EO := [o 9 .mv [i 0]]
def c38_25 : EC := .rg c38_25l false
@[simp] theorem c38_25e : Rg c38_25 c38_25l false := rgE _ _
@[simp] def c38_26l : List EO := [m 39 9,
 o 40 (.faddr 5) [t 3],
 o 41 (.load 1 false) [t 40],
 o 42 .lenL [t 41],
 o 43 (.bin .lss) [t 39, t 42]]
def c38_26 : EC := .rg c38_26l false
@[simp] theorem c38_26e : Rg c38_26 c38_26l false := rgE _ _
def c38_27 : EC := .cd (t 43) .skip (.ex 2)
@[simp] theorem c38_27e : Cd c38_27 (t 43) .skip (.ex 2) := cdE _ _ _
def c38_28 : EC := .sq c38_26 c38_27
@[simp] theorem c38_28e : Sq c38_28 c38_26 c38_27 := sqE _ _
@[simp] def c38_29l : List EO := [m 46 8,
 o 47 (.faddr 5) [t 3],
 o 48 (.load 1 false) [t 47],
 m 49 9,
 o 50 (.iaS 6) [t 48, t 49],
 o 51 (.load 6 true) [t 50],
 m 52 1,
 m 53 2,
 o 54 (.call 38) [t 51, t 52, t 53],
 o 55 (.bsl 6) [t 54],
 o 56 (.app 32 6 72) [t 46, t 55],
 m 8 56]
def c38_29 : EC := .rg c38_29l false
@[simp] theorem c38_29e : Rg c38_29 c38_29l false := rgE _ _
def c38_30 : EC := .bk 3 c38_29
@[simp] theorem c38_30e : Bk c38_30 3 c38_29 := bkE _ _
@[simp] def c38_31l : List EO := [m 44 9,
 o 45 (.bin .add) [t 44, i 1],
 m 9 45]
def c38_31 : EC := .rg c38_31l false
@[simp] theorem c38_31e : Rg c38_31 c38_31l false := rgE _ _
def c38_32 : EC := .sq c38_30 c38_31
@[simp] theorem c38_32e : Sq c38_32 c38_30 c38_31 := sqE _ _
def c38_33 : EC := .sq c38_28 c38_32
@[simp] theorem c38_33e : Sq c38_33 c38_28 c38_32 := sqE _ _
def c38_34 : EC := .bk 2 (.lp c38_33)
@[simp] theorem c38_34e : Bk c38_34 2 (.lp c38_33) := bkE _ _
def c38_35 : EC := .sq c38_25 c38_34
@[simp] theorem c38_35e : Sq c38_35 c38_25 c38_34 := sqE _ _
@[simp] def c38_36l : List EO := [m 57 8,
 o 58 (.faddr 5) [t 3],
 u (.store 1) [t 58, t 57]]
def c38_36 : EC := .rg c38_36l false
@[simp] theorem c38_36e : Rg c38_36 c38_36l false := rgE _ _
@[simp] def c38_37l : List EO := [o 59 (.load 6 true) [t 3],
 u (.store 6) [t 6, t 59]]
def c38_37 : EC := .rg c38_37l false
@[simp] theorem c38_37e : Rg c38_37 c38_37l false := rgE _ _
def c38_38 : EC := .sq c38_37 .rt
@[simp] theorem c38_38e : Sq c38_38 c38_37 .rt := sqE _ _
def c38_39 : EC := .sq c38_36 c38_38
@[simp] theorem c38_39e : Sq c38_39 c38_36 c38_38 := sqE _ _
def c38_40 : EC := .sq c38_35 c38_39
@[simp] theorem c38_40e : Sq c38_40 c38_35 c38_39 := sqE _ _
def c38_41 : EC := .sq c38_24 c38_40
@[simp] theorem c38_41e : Sq c38_41 c38_24 c38_40 := sqE _ _
def c38_42 : EC := .sq c38_23 c38_41
@[simp] theorem c38_42e : Sq c38_42 c38_23 c38_41 := sqE _ _
def c38_43 : EC := .sq c38_0 c38_42
@[simp] theorem c38_43e : Sq c38_43 c38_0 c38_42 := sqE _ _
def c_tallystoneref33_Rename_38 : EC := c38_43
theorem k_38 : ecF Tryd.prog 38 = some (60, c_tallystoneref33_Rename_38, [.ce 6 6 true]) := by kernel_rfl
end Go.Proofs.YtkapabohpfkcoaaDoor
