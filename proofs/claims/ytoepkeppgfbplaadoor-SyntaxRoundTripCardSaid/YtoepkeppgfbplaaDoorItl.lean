/- The shelf's laying of functions of the library, written by the kit's tool at this seat's program (its numbers). -/
import Derived.Shelf.Strconv.Itoa3
import Derived.Shelf.LaysM
import Derived.Test.YtoepkeppgfbplaaDoorProg
set_option linter.unusedSimpArgs false
set_option linter.unusedVariables false
set_option maxRecDepth 100000
namespace Go.Proofs.YtoepkeppgfbplaaDoor
open Go.Proofs Go.Shelf
def laysIto_ren : Go.Shelf.Ren := ⟨fun | 171 => 27 | 243 => 53 | 246 => 72 | 283 => 94 | 284 => 95 | 285 => 96 | 286 => 97 | 129 => 108 | 317 => 107 | 318 => 109 | 319 => 110 | 320 => 111 | 337 => 118 | 338 => 119 | n => n, fun | 3 => 3 | 9 => 9 | 2 => 2 | 4 => 4 | 171 => 132 | 0 => 0 | 53 => 133 | 37 => 65 | 5 => 5 | 173 => 136 | 212 => 147 | 51 => 148 | 20 => 20 | 213 => 149 | 46 => 150 | 232 => 173 | 233 => 174 | n => n, fun | 17 => 1 | 18 => 4 | 19 => 5 | n => n⟩
theorem laysIto : Go.Proofs.LaysM.n171 Tryd.prog laysIto_ren := {
 mixed := by kernel_rfl
 f129 := Tryd.func108.trans (congrArg some (by kernel_rfl))
 f171 := Tryd.func27.trans (congrArg some (by kernel_rfl))
 f243 := Tryd.func53.trans (congrArg some (by kernel_rfl))
 f246 := Tryd.func72.trans (congrArg some (by kernel_rfl))
 f283 := Tryd.func94.trans (congrArg some (by kernel_rfl))
 f284 := Tryd.func95.trans (congrArg some (by kernel_rfl))
 f285 := Tryd.func96.trans (congrArg some (by kernel_rfl))
 f286 := Tryd.func97.trans (congrArg some (by kernel_rfl))
 f317 := Tryd.func107.trans (congrArg some (by kernel_rfl))
 f318 := Tryd.func109.trans (congrArg some (by kernel_rfl))
 f319 := Tryd.func110.trans (congrArg some (by kernel_rfl))
 f320 := Tryd.func111.trans (congrArg some (by kernel_rfl))
 f337 := Tryd.func118.trans (congrArg some (by kernel_rfl))
 f338 := Tryd.func119.trans (congrArg some (by kernel_rfl))
 t0 := Tryd.underlying0
 a0 := Tryd.isAgg0
 z0 := Tryd.sizeOf0
 v0 := Tryd.zeroValue0
 t2 := Tryd.underlying2
 a2 := Tryd.isAgg2
 z2 := Tryd.sizeOf2
 v2 := Tryd.zeroValue2
 t3 := Tryd.underlying3
 a3 := Tryd.isAgg3
 z3 := Tryd.sizeOf3
 v3 := Tryd.zeroValue3
 t4 := Tryd.underlying4
 a4 := Tryd.isAgg4
 z4 := Tryd.sizeOf4
 v4 := Tryd.zeroValue4
 t5 := Tryd.underlying5
 a5 := Tryd.isAgg5
 z5 := Tryd.sizeOf5
 v5 := Tryd.zeroValue5
 t9 := Tryd.underlying9
 a9 := Tryd.isAgg9
 z9 := Tryd.sizeOf9
 v9 := Tryd.zeroValue9
 t20 := Tryd.underlying20
 a20 := Tryd.isAgg20
 z20 := Tryd.sizeOf20
 v20 := Tryd.zeroValue20
 t37 := Tryd.underlying65
 a37 := Tryd.isAgg65
 z37 := Tryd.sizeOf65
 v37 := Tryd.zeroValue65
 t46 := Tryd.underlying150
 a46 := Tryd.isAgg150
 z46 := Tryd.sizeOf150
 v46 := Tryd.zeroValue150
 t51 := Tryd.underlying148
 a51 := Tryd.isAgg148
 z51 := Tryd.sizeOf148
 v51 := Tryd.zeroValue148
 t53 := Tryd.underlying133
 a53 := Tryd.isAgg133
 z53 := Tryd.sizeOf133
 v53 := Tryd.zeroValue133
 t171 := Tryd.underlying132
 a171 := Tryd.isAgg132
 z171 := Tryd.sizeOf132
 v171 := Tryd.zeroValue132
 t173 := Tryd.underlying136
 a173 := Tryd.isAgg136
 z173 := Tryd.sizeOf136
 v173 := Tryd.zeroValue136
 t212 := Tryd.underlying147
 a212 := Tryd.isAgg147
 z212 := Tryd.sizeOf147
 v212 := Tryd.zeroValue147
 t213 := Tryd.underlying149
 a213 := Tryd.isAgg149
 z213 := Tryd.sizeOf149
 t232 := Tryd.underlying173
 a232 := Tryd.isAgg173
 z232 := Tryd.sizeOf173
 v232 := Tryd.zeroValue173
 t233 := Tryd.underlying174
 a233 := Tryd.isAgg174
 z233 := Tryd.sizeOf174
 v233 := Tryd.zeroValue174
 g17 := by kernel_rfl
 g18 := by kernel_rfl
 g19 := by kernel_rfl
 i0 := by kernel_rfl
 i2 := by kernel_rfl
 i3 := by kernel_rfl
 i4 := by kernel_rfl
 i5 := by kernel_rfl
 i9 := by kernel_rfl
 i20 := by kernel_rfl
 i37 := by kernel_rfl
 i46 := by kernel_rfl
 i51 := by kernel_rfl
 i53 := by kernel_rfl
 i171 := by kernel_rfl
 i173 := by kernel_rfl
 i212 := by kernel_rfl
 i232 := by kernel_rfl
 i233 := by kernel_rfl
 m17 := by kernel_rfl
 m18 := by kernel_rfl
 m19 := by kernel_rfl }
end Go.Proofs.YtoepkeppgfbplaaDoor
