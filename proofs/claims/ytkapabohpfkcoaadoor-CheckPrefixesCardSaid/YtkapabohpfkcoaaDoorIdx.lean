/- strings.IndexByte. -/
import Derived.Test.YtkapabohpfkcoaaDoorTok
import Derived.Lib.Builder
import Derived.Lib.Walk
import Derived.Lib.Bytealg
import Derived.Laws.StandIn
import Derived.Shelf.RegionOpenPlain
import Derived.WalkKit
set_option linter.unusedSimpArgs false
set_option linter.unusedVariables false
set_option maxHeartbeats 2000000
set_option maxRecDepth 100000
namespace Go.Proofs.YtkapabohpfkcoaaDoor
open E Go.RowKit

theorem c_165 (s : ByteArray) (c : Int) (w : World) :
    Calls Tryd.prog 165 #[.string s, .int .u8 c] w fun e w' => e = .returned (.int .i64 (Lib.indexByte s.data.toList c.toNat.toUInt8)) ∧ w' = w := by
  have hX : ∀ (args : Array Value) (w : World), (callFunc 169 args).run Tryd.prog w = ((Extern.BytealgIndexByte.indexByte args).run Tryd.prog w).andThen fun v w' => .ok (.value v) w' :=
    fun args w => run_callFunc_indexByte Tryd.func169 (by kernel_rfl) (by kernel_rfl) (by kernel_rfl) (by kernel_rfl) args w
  have hY : ∀ W : World, (Extern.BytealgIndexByte.indexByte #[.string s, .int .u8 c]).run Tryd.prog W = .ok (.int .i64 (Lib.indexByte s.data.toList c.toNat.toUInt8)) W := fun W => Lib.run_indexByteString s c W
  have hZ : ∀ W : World, (callFunc 169 #[.string s, .int .u8 c]).run Tryd.prog W = .ok (.value (.int .i64 (Lib.indexByte s.data.toList c.toNat.toUInt8))) W := fun W => by rw [hX, hY]; rfl
  go_enter Tryd.func165, Tryd.ntmps165
  go_wp2
  go_ret
  exact ⟨rfl, rfl⟩

theorem args2' {us : Array Value} (h : us.size = 2) : us = #[us.getD 0 undef, us.getD 1 undef] := by
  apply Array.ext
  · simp [h]
  · intro i h1 h2
    rcases (by omega : i = 0 ∨ i = 1) with rfl | rfl <;> simp [Array.getD, h]
theorem w_165 (s : List UInt8) (c : Int) : Pure Tryd.prog 165 [vS s, vY c] (vI (Lib.indexByte s c.toNat.toUInt8)) := by
  refine ⟨Tryd.call165, fun g w us hI hus hrel => ?_⟩
  have hr0 := hrel 0 (by simp)
  have hr1 := hrel 1 (by simp)
  simp only [List.getD_cons_zero, List.getD_cons_succ] at hr0 hr1
  rw [args2' hus]
  generalize us.getD 0 undef = u0 at hr0
  generalize us.getD 1 undef = u1 at hr1
  cases hr0 with
  | t _ _ h0 =>
  cases hr1 with
  | t _ _ h1 =>
  cases h0
  cases h1
  refine (c_165 _ _ w).mono ?_
  rintro e w' ⟨rfl, rfl⟩
  exact ⟨_, g, rfl, .t _ _ (.int _ _), Mv.refl hI⟩
theorem w_idxB (s : List UInt8) (c : Int) : Pure Tryd.prog 156 [vS s, vY c] (vI (Lib.indexByte s c.toNat.toUInt8)) := by
  have h := w_165 s c
  generalize Lib.indexByte s c.toNat.toUInt8 = r at *
  (refine Pure.of_code mix Tryd.call156 k_156 (by simp) (fun hB => ?_); (try simp at hB); (try simp -implicitDefEqProofs [c_strings_IndexByte_156]))
  ((try simp at h); (try simp -implicitDefEqProofs); repeat' first | ((first | with_reducible refine gdK_em (fun hc => ?_) (fun hc => ?_) | with_reducible refine cdK_em (fun hc => ?_) (fun hc => ?_) | with_reducible refine pickK_em (fun hc => ?_) (fun hc => ?_)) <;> (have hc' := hc; (try simp at hc'); simp -implicitDefEqProofs [hc, hc'])) | (with_reducible apply callK_pure <;> first | (simp only [eras, era, eras_map]; first | with_reducible exact h | simpa using h) | (simp -implicitDefEqProofs)))
end Go.Proofs.YtkapabohpfkcoaaDoor
