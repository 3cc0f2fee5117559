/- strconv.Itoa: the shelf's contract, laid by the kit's tool (numbers of round r2's seat), as a contract of the engine. -/
import Derived.Shelf.Strconv.Itoa3
import Derived.Shelf.LaysM
import Derived.Test.YtkapabohpfkcoaaDoorBld
set_option linter.unusedSimpArgs false
set_option linter.unusedVariables false
set_option maxRecDepth 100000
namespace Go.Proofs.YtkapabohpfkcoaaDoor
open Go.Shelf
def laysIto_ren : Go.Shelf.Ren := ⟨fun | 171 => 61 | 243 => 96 | 246 => 119 | 283 => 140 | 284 => 141 | 285 => 142 | 286 => 143 | 129 => 133 | 317 => 157 | 318 => 158 | 319 => 159 | 320 => 160 | 337 => 166 | 338 => 167 | n => n, fun | 3 => 3 | 9 => 9 | 2 => 2 | 4 => 4 | 171 => 189 | 0 => 0 | 53 => 184 | 37 => 113 | 5 => 5 | 173 => 191 | 212 => 204 | 51 => 182 | 20 => 20 | 213 => 205 | 46 => 159 | 232 => 217 | 233 => 218 | n => n, fun | 17 => 0 | 18 => 3 | 19 => 4 | n => n⟩
theorem laysIto : Go.Proofs.LaysM.n171 Tryd.prog laysIto_ren := {
  mixed := by kernel_rfl
  f129 := Tryd.func133.trans (congrArg some (by kernel_rfl))
  f171 := Tryd.func61.trans (congrArg some (by kernel_rfl))
  f243 := Tryd.func96.trans (congrArg some (by kernel_rfl))
  f246 := Tryd.func119.trans (congrArg some (by kernel_rfl))
  f283 := Tryd.func140.trans (congrArg some (by kernel_rfl))
  f284 := Tryd.func141.trans (congrArg some (by kernel_rfl))
  f285 := Tryd.func142.trans (congrArg some (by kernel_rfl))
  f286 := Tryd.func143.trans (congrArg some (by kernel_rfl))
  f317 := Tryd.func157.trans (congrArg some (by kernel_rfl))
  f318 := Tryd.func158.trans (congrArg some (by kernel_rfl))
  f319 := Tryd.func159.trans (congrArg some (by kernel_rfl))
  f320 := Tryd.func160.trans (congrArg some (by kernel_rfl))
  f337 := Tryd.func166.trans (congrArg some (by kernel_rfl))
  f338 := Tryd.func167.trans (congrArg some (by kernel_rfl))
  t0 := Tryd.underlying0
  a0 := Tryd.isAgg0
  z0 := Tryd.sizeOf0
  v0 := Tryd.zeroValue0
  t2 := Tryd.underlying2
  a2 := Tryd.isAgg2
  z2 := Tryd.sizeOf2
  v2 := Tryd.zeroValue2
  t3 := Tryd.underlying3
  a3 := Tryd.isAgg3
  z3 := Tryd.sizeOf3
  v3 := Tryd.zeroValue3
  t4 := Tryd.underlying4
  a4 := Tryd.isAgg4
  z4 := Tryd.sizeOf4
  v4 := Tryd.zeroValue4
  t5 := Tryd.underlying5
  a5 := Tryd.isAgg5
  z5 := Tryd.sizeOf5
  v5 := Tryd.zeroValue5
  t9 := Tryd.underlying9
  a9 := Tryd.isAgg9
  z9 := Tryd.sizeOf9
  v9 := Tryd.zeroValue9
  t20 := Tryd.underlying20
  a20 := Tryd.isAgg20
  z20 := Tryd.sizeOf20
  v20 := Tryd.zeroValue20
  t37 := Tryd.underlying113
  a37 := Tryd.isAgg113
  z37 := Tryd.sizeOf113
  v37 := Tryd.zeroValue113
  t46 := Tryd.underlying159
  a46 := Tryd.isAgg159
  z46 := Tryd.sizeOf159
  v46 := Tryd.zeroValue159
  t51 := Tryd.underlying182
  a51 := Tryd.isAgg182
  z51 := Tryd.sizeOf182
  v51 := Tryd.zeroValue182
  t53 := Tryd.underlying184
  a53 := Tryd.isAgg184
  z53 := Tryd.sizeOf184
  v53 := Tryd.zeroValue184
  t171 := Tryd.underlying189
  a171 := Tryd.isAgg189
  z171 := Tryd.sizeOf189
  v171 := Tryd.zeroValue189
  t173 := Tryd.underlying191
  a173 := Tryd.isAgg191
  z173 := Tryd.sizeOf191
  v173 := Tryd.zeroValue191
  t212 := Tryd.underlying204
  a212 := Tryd.isAgg204
  z212 := Tryd.sizeOf204
  v212 := Tryd.zeroValue204
  t213 := Tryd.underlying205
  a213 := Tryd.isAgg205
  z213 := Tryd.sizeOf205
  t232 := Tryd.underlying217
  a232 := Tryd.isAgg217
  z232 := Tryd.sizeOf217
  v232 := Tryd.zeroValue217
  t233 := Tryd.underlying218
  a233 := Tryd.isAgg218
  z233 := Tryd.sizeOf218
  v233 := Tryd.zeroValue218
  g17 := by kernel_rfl
  g18 := by kernel_rfl
  g19 := by kernel_rfl
  i0 := by kernel_rfl
  i2 := by kernel_rfl
  i3 := by kernel_rfl
  i4 := by kernel_rfl
  i5 := by kernel_rfl
  i9 := by kernel_rfl
  i20 := by kernel_rfl
  i37 := by kernel_rfl
  i46 := by kernel_rfl
  i51 := by kernel_rfl
  i53 := by kernel_rfl
  i171 := by kernel_rfl
  i173 := by kernel_rfl
  i212 := by kernel_rfl
  i232 := by kernel_rfl
  i233 := by kernel_rfl
  m17 := by kernel_rfl
  m18 := by kernel_rfl
  m19 := by kernel_rfl }
open Go.RowKit Go.Sort Go.Lib in
theorem itoa_calls (n : Int) (h0 : -9223372036854775808 ≤ n) (h1 : n ≤ 9223372036854775807) (w : World) (htab : Lib.TabIs Tryd.prog w "internal/strconv.uint64pow10" .u64 Lib.pow10Tab) :
    Calls Tryd.prog 61 #[.int .i64 n] w fun e w' => e = .returned (.string ⟨(Lib.itoa n).toArray⟩) ∧ ∃ k os, w' = grow (w.drewN k) os := Any.strconv_Itoa laysIto n h0 h1 w htab
open E Go.RowKit
theorem pow10_lay {o : Nat} (h : o < 20) : laidC 0 o = some (.int .u64 ((10 ^ o : Nat) : Int)) := by
  have : laidC 0 o = ((List.range 20).map fun i => Value.int .u64 ((10 ^ i : Nat) : Int))[o]? := rfl
  rw [this]
  simp [h]
theorem pow10_tab {g : Gh} {S : St} {w : World} (h : Inv g S w) : Lib.TabIs Tryd.prog w "internal/strconv.uint64pow10" .u64 Lib.pow10Tab := by
  have hg : Tryd.prog.globalNamed "internal/strconv.uint64pow10" = some 0 := by kernel_rfl
  obtain ⟨cs, ty, fz, h1, h2⟩ := h.lsz 0 _ (pow10_lay (by decide))
  have h3 : laidN 0 = 20 := rfl
  unfold Lib.TabIs World.var?
  rw [hg]
  simp only [Option.bind_some, h1]
  congr 1
  apply Array.ext_getElem?
  intro o
  rcases Nat.lt_or_ge o 20 with ho | ho
  · have h4 := h.imm _ _ _ (h.lay _ _ _ (pow10_lay ho))
    simp only [World.cell?, h1, Option.isSome_none] at h4
    rw [if_neg (by simp)] at h4
    rw [h4]
    simp [Lib.pow10Tab, ho]
  · rw [Array.getElem?_eq_none (by rw [h2, h3]; exact ho), Array.getElem?_eq_none (by simp [Lib.pow10Tab]; exact ho)]

theorem w_itoa (n : Int) (h0 : -9223372036854775808 ≤ n) (h1 : n ≤ 9223372036854775807) : Pure Tryd.prog 61 [.t (.int .i64 n)] (.t (.str (Lib.itoa n))) := by
  refine ⟨Tryd.call61, fun g w us hI hus hrel => ?_⟩
  rw [args1 hus]
  have hr := hrel 0 (by simp)
  simp only [List.getD_cons_zero] at hr
  generalize us.getD 0 undef = u0 at hr
  cases hr with
  | t _ _ hr =>
    cases hr
    refine (itoa_calls n h0 h1 w (pow10_tab hI)).mono ?_
    rintro e w' ⟨rfl, k, os, rfl⟩
    refine ⟨_, g, rfl, .t _ _ (.str _), hI.grown rfl rfl rfl ?_ fun i hi => ?_⟩
    · simp [Go.Sort.grow, World.drewN]
    · simp [Go.Sort.grow, World.drewN, Array.getElem?_append, hi]
end Go.Proofs.YtkapabohpfkcoaaDoor
