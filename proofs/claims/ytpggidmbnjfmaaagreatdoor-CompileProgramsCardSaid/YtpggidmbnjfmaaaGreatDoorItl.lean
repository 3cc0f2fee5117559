/- The shelf's laying of functions of the library, written by the kit's tool at this seat's program (its numbers). -/
import Derived.Shelf.Strconv.Itoa3
import Derived.Shelf.LaysM
import Derived.Test.YtpggidmbnjfmaaaGreatDoorProg
set_option linter.unusedSimpArgs false
set_option linter.unusedVariables false
set_option maxRecDepth 100000
namespace Go.Proofs.YtpggidmbnjfmaaaGreatDoor
open Go.Proofs Go.Shelf
def laysIto_ren : Go.Shelf.Ren := ⟨fun | 171 => 43 | 243 => 86 | 246 => 124 | 283 => 150 | 284 => 151 | 285 => 152 | 286 => 153 | 129 => 163 | 317 => 162 | 318 => 164 | 319 => 165 | 320 => 166 | 337 => 170 | 338 => 171 | n => n, fun | 3 => 3 | 9 => 9 | 2 => 2 | 4 => 4 | 171 => 214 | 0 => 0 | 53 => 215 | 37 => 115 | 5 => 5 | 173 => 218 | 212 => 233 | 51 => 226 | 20 => 20 | 213 => 234 | 46 => 235 | 232 => 252 | 233 => 253 | n => n, fun | 17 => 2 | 18 => 4 | 19 => 5 | n => n⟩
theorem laysIto : Go.Proofs.LaysM.n171 Tryz.prog laysIto_ren := {
 mixed := by kernel_rfl
 f129 := Tryz.func163.trans (congrArg some (by kernel_rfl))
 f171 := Tryz.func43.trans (congrArg some (by kernel_rfl))
 f243 := Tryz.func86.trans (congrArg some (by kernel_rfl))
 f246 := Tryz.func124.trans (congrArg some (by kernel_rfl))
 f283 := Tryz.func150.trans (congrArg some (by kernel_rfl))
 f284 := Tryz.func151.trans (congrArg some (by kernel_rfl))
 f285 := Tryz.func152.trans (congrArg some (by kernel_rfl))
 f286 := Tryz.func153.trans (congrArg some (by kernel_rfl))
 f317 := Tryz.func162.trans (congrArg some (by kernel_rfl))
 f318 := Tryz.func164.trans (congrArg some (by kernel_rfl))
 f319 := Tryz.func165.trans (congrArg some (by kernel_rfl))
 f320 := Tryz.func166.trans (congrArg some (by kernel_rfl))
 f337 := Tryz.func170.trans (congrArg some (by kernel_rfl))
 f338 := Tryz.func171.trans (congrArg some (by kernel_rfl))
 t0 := Tryz.underlying0
 a0 := Tryz.isAgg0
 z0 := Tryz.sizeOf0
 v0 := Tryz.zeroValue0
 t2 := Tryz.underlying2
 a2 := Tryz.isAgg2
 z2 := Tryz.sizeOf2
 v2 := Tryz.zeroValue2
 t3 := Tryz.underlying3
 a3 := Tryz.isAgg3
 z3 := Tryz.sizeOf3
 v3 := Tryz.zeroValue3
 t4 := Tryz.underlying4
 a4 := Tryz.isAgg4
 z4 := Tryz.sizeOf4
 v4 := Tryz.zeroValue4
 t5 := Tryz.underlying5
 a5 := Tryz.isAgg5
 z5 := Tryz.sizeOf5
 v5 := Tryz.zeroValue5
 t9 := Tryz.underlying9
 a9 := Tryz.isAgg9
 z9 := Tryz.sizeOf9
 v9 := Tryz.zeroValue9
 t20 := Tryz.underlying20
 a20 := Tryz.isAgg20
 z20 := Tryz.sizeOf20
 v20 := Tryz.zeroValue20
 t37 := Tryz.underlying115
 a37 := Tryz.isAgg115
 z37 := Tryz.sizeOf115
 v37 := Tryz.zeroValue115
 t46 := Tryz.underlying235
 a46 := Tryz.isAgg235
 z46 := Tryz.sizeOf235
 v46 := Tryz.zeroValue235
 t51 := Tryz.underlying226
 a51 := Tryz.isAgg226
 z51 := Tryz.sizeOf226
 v51 := Tryz.zeroValue226
 t53 := Tryz.underlying215
 a53 := Tryz.isAgg215
 z53 := Tryz.sizeOf215
 v53 := Tryz.zeroValue215
 t171 := Tryz.underlying214
 a171 := Tryz.isAgg214
 z171 := Tryz.sizeOf214
 v171 := Tryz.zeroValue214
 t173 := Tryz.underlying218
 a173 := Tryz.isAgg218
 z173 := Tryz.sizeOf218
 v173 := Tryz.zeroValue218
 t212 := Tryz.underlying233
 a212 := Tryz.isAgg233
 z212 := Tryz.sizeOf233
 v212 := Tryz.zeroValue233
 t213 := Tryz.underlying234
 a213 := Tryz.isAgg234
 z213 := Tryz.sizeOf234
 t232 := Tryz.underlying252
 a232 := Tryz.isAgg252
 z232 := Tryz.sizeOf252
 v232 := Tryz.zeroValue252
 t233 := Tryz.underlying253
 a233 := Tryz.isAgg253
 z233 := Tryz.sizeOf253
 v233 := Tryz.zeroValue253
 g17 := by kernel_rfl
 g18 := by kernel_rfl
 g19 := by kernel_rfl
 i0 := by kernel_rfl
 i2 := by kernel_rfl
 i3 := by kernel_rfl
 i4 := by kernel_rfl
 i5 := by kernel_rfl
 i9 := by kernel_rfl
 i20 := by kernel_rfl
 i37 := by kernel_rfl
 i46 := by kernel_rfl
 i51 := by kernel_rfl
 i53 := by kernel_rfl
 i171 := by kernel_rfl
 i173 := by kernel_rfl
 i212 := by kernel_rfl
 i232 := by kernel_rfl
 i233 := by kernel_rfl
 m17 := by kernel_rfl
 m18 := by kernel_rfl
 m19 := by kernel_rfl }
end Go.Proofs.YtpggidmbnjfmaaaGreatDoor
