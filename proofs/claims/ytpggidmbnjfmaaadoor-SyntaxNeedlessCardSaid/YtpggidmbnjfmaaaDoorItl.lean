/- The shelf's laying of functions of the library, written by the kit's tool at this seat's program (its numbers). -/
import Derived.Shelf.Strconv.Itoa3
import Derived.Shelf.LaysM
import Derived.Test.YtpggidmbnjfmaaaDoorProg
set_option linter.unusedSimpArgs false
set_option linter.unusedVariables false
set_option maxRecDepth 100000
namespace Go.Proofs.YtpggidmbnjfmaaaDoor
open Go.Proofs Go.Shelf
def laysIto_ren : Go.Shelf.Ren := ⟨fun | 171 => 22 | 243 => 45 | 246 => 61 | 283 => 84 | 284 => 85 | 285 => 86 | 286 => 87 | 129 => 98 | 317 => 97 | 318 => 99 | 319 => 100 | 320 => 101 | 337 => 108 | 338 => 109 | n => n, fun | 3 => 3 | 9 => 9 | 2 => 2 | 4 => 4 | 171 => 125 | 0 => 0 | 53 => 126 | 37 => 58 | 5 => 5 | 173 => 129 | 212 => 140 | 51 => 141 | 20 => 20 | 213 => 142 | 46 => 143 | 232 => 166 | 233 => 167 | n => n, fun | 17 => 1 | 18 => 4 | 19 => 5 | n => n⟩
theorem laysIto : Go.Proofs.LaysM.n171 Tryd.prog laysIto_ren := {
 mixed := by kernel_rfl
 f129 := Tryd.func98.trans (congrArg some (by kernel_rfl))
 f171 := Tryd.func22.trans (congrArg some (by kernel_rfl))
 f243 := Tryd.func45.trans (congrArg some (by kernel_rfl))
 f246 := Tryd.func61.trans (congrArg some (by kernel_rfl))
 f283 := Tryd.func84.trans (congrArg some (by kernel_rfl))
 f284 := Tryd.func85.trans (congrArg some (by kernel_rfl))
 f285 := Tryd.func86.trans (congrArg some (by kernel_rfl))
 f286 := Tryd.func87.trans (congrArg some (by kernel_rfl))
 f317 := Tryd.func97.trans (congrArg some (by kernel_rfl))
 f318 := Tryd.func99.trans (congrArg some (by kernel_rfl))
 f319 := Tryd.func100.trans (congrArg some (by kernel_rfl))
 f320 := Tryd.func101.trans (congrArg some (by kernel_rfl))
 f337 := Tryd.func108.trans (congrArg some (by kernel_rfl))
 f338 := Tryd.func109.trans (congrArg some (by kernel_rfl))
 t0 := Tryd.underlying0
 a0 := Tryd.isAgg0
 z0 := Tryd.sizeOf0
 v0 := Tryd.zeroValue0
 t2 := Tryd.underlying2
 a2 := Tryd.isAgg2
 z2 := Tryd.sizeOf2
 v2 := Tryd.zeroValue2
 t3 := Tryd.underlying3
 a3 := Tryd.isAgg3
 z3 := Tryd.sizeOf3
 v3 := Tryd.zeroValue3
 t4 := Tryd.underlying4
 a4 := Tryd.isAgg4
 z4 := Tryd.sizeOf4
 v4 := Tryd.zeroValue4
 t5 := Tryd.underlying5
 a5 := Tryd.isAgg5
 z5 := Tryd.sizeOf5
 v5 := Tryd.zeroValue5
 t9 := Tryd.underlying9
 a9 := Tryd.isAgg9
 z9 := Tryd.sizeOf9
 v9 := Tryd.zeroValue9
 t20 := Tryd.underlying20
 a20 := Tryd.isAgg20
 z20 := Tryd.sizeOf20
 v20 := Tryd.zeroValue20
 t37 := Tryd.underlying58
 a37 := Tryd.isAgg58
 z37 := Tryd.sizeOf58
 v37 := Tryd.zeroValue58
 t46 := Tryd.underlying143
 a46 := Tryd.isAgg143
 z46 := Tryd.sizeOf143
 v46 := Tryd.zeroValue143
 t51 := Tryd.underlying141
 a51 := Tryd.isAgg141
 z51 := Tryd.sizeOf141
 v51 := Tryd.zeroValue141
 t53 := Tryd.underlying126
 a53 := Tryd.isAgg126
 z53 := Tryd.sizeOf126
 v53 := Tryd.zeroValue126
 t171 := Tryd.underlying125
 a171 := Tryd.isAgg125
 z171 := Tryd.sizeOf125
 v171 := Tryd.zeroValue125
 t173 := Tryd.underlying129
 a173 := Tryd.isAgg129
 z173 := Tryd.sizeOf129
 v173 := Tryd.zeroValue129
 t212 := Tryd.underlying140
 a212 := Tryd.isAgg140
 z212 := Tryd.sizeOf140
 v212 := Tryd.zeroValue140
 t213 := Tryd.underlying142
 a213 := Tryd.isAgg142
 z213 := Tryd.sizeOf142
 t232 := Tryd.underlying166
 a232 := Tryd.isAgg166
 z232 := Tryd.sizeOf166
 v232 := Tryd.zeroValue166
 t233 := Tryd.underlying167
 a233 := Tryd.isAgg167
 z233 := Tryd.sizeOf167
 v233 := Tryd.zeroValue167
 g17 := by kernel_rfl
 g18 := by kernel_rfl
 g19 := by kernel_rfl
 i0 := by kernel_rfl
 i2 := by kernel_rfl
 i3 := by kernel_rfl
 i4 := by kernel_rfl
 i5 := by kernel_rfl
 i9 := by kernel_rfl
 i20 := by kernel_rfl
 i37 := by kernel_rfl
 i46 := by kernel_rfl
 i51 := by kernel_rfl
 i53 := by kernel_rfl
 i171 := by kernel_rfl
 i173 := by kernel_rfl
 i212 := by kernel_rfl
 i232 := by kernel_rfl
 i233 := by kernel_rfl
 m17 := by kernel_rfl
 m18 := by kernel_rfl
 m19 := by kernel_rfl }
end Go.Proofs.YtpggidmbnjfmaaaDoor
