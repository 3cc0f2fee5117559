/- The laid variables of CompileCounts' and CompileDamage's rows. -/
import Derived.Test.YtpggidmbnjfmaaaGreatDoorRowS
import Derived.Test.YtpggidmbnjfmaaaGreatDoorRows
import Derived.Test.YtpggidmbnjfmaaaGreatDoorTie
import Derived.ProofKit
import Derived.Carry
import Derived.LaidMore
import Derived.OpenShut
import Derived.Stop.Joined
import Derived.Lib.ItoaNum
set_option linter.unusedSimpArgs false
set_option linter.unusedVariables false
namespace Go.Proofs.YtpggidmbnjfmaaaGreatDoor
open Go.ChangeShapes Go.WideShapes Go.ChangeAt Go.RowKit E

def lay4 : List (String × DataW Unit) := [("math/bits.deBruijn32tab", Rows.laid_math_bits_deBruijn32tab), ("math/bits.deBruijn64tab", Rows.laid_math_bits_deBruijn64tab), ("internal/strconv.uint64pow10", Rows.laid_internal_strconv_uint64pow10), ("unicode.White_Space", Rows.laid_unicode_White_Space), ("strings.asciiSpace", Rows.laid_strings_asciiSpace)]
def ascC : List Value := (List.range 256).map fun i => Value.int .u8 (if i = 9 ∨ i = 10 ∨ i = 11 ∨ i = 12 ∨ i = 13 ∨ i = 32 then 1 else 0)
theorem gPw : Tryz.prog.globalNamed "internal/strconv.uint64pow10" = some 2 := by kernel_rfl

theorem tPw : (Tryz.prog.globals[2]?).map (·.type) = some 233 := by kernel_rfl

set_option maxRecDepth 100000 in
theorem of_laidP {W : World} (h : laidMetH Tryz.prog lay4 W) : ∃ cs, W.var? Tryz.prog "internal/strconv.uint64pow10" = some cs ∧ cs.toList = (List.range 20).map fun i => Value.int .u64 ((10 ^ i : Nat) : Int) := by
 rw [MakeChecks.laidMetH_plain _ _ _ (by kernel_rfl)] at h
 obtain ⟨ps, ⟨g0, t0, cs0, f0, p0, q0, hg0, ht0, hv0, hd0, ⟨g1, t1, cs1, f1, p1, q1, hg1, ht1, hv1, hd1, ⟨gP, tP, csP, fP, pP, qP, hgP, htP, hvP, hdP, ⟨g3, t3, cs3, f3, p3, q3, hg3, ht3, hv3, hd3, ⟨gA, tA, csA, fA, pA, qA, hgA, htA, hvA, hdA, _, _⟩, _⟩, _⟩, _⟩, _⟩, _, _⟩ := h
 obtain rfl := Option.some.inj (gPw.symm.trans hgP)
 refine ⟨csP, hvP, ?_⟩
 obtain rfl := Option.some.inj (tPw.symm.trans htP)
 obtain ⟨xs, m1, rfl, hx1, hlen, hn, hel⟩ := DataW.trod_array Tryz.underlying233 hdP
 have c1 : Tryz.prog.cellsOf 215 = 1 := by kernel_rfl
 have c20 : Tryz.prog.cellsOf 233 = 20 := by kernel_rfl
 rw [c20] at hlen
 have hd : (Rows.laid_internal_strconv_uint64pow10 : DataW Unit) = .agg ((List.range 20).map fun i => .lit (.int .u64 ((10 ^ i : Nat) : Int))) := by rfl
 rw [hd] at hx1
 simp only [Prod.mk.injEq, DataW.agg.injEq] at hx1
 apply List.ext_getElem?
 intro i
 rcases Nat.lt_or_ge i 20 with hi | hi
 ·have h1 := hel i hi
  rw [c1, Nat.mul_one] at h1
  obtain ⟨x, hx⟩ : ∃ x, xs[i]? = some x := ⟨xs[i]'(by omega), by simp [hn, hi]⟩
  rw [hx] at h1
  obtain ⟨n, e1, e2, _⟩ := DataW.trod_int Tryz.underlying215 h1
  have h2 : (xs.map (·.1))[i]? = some (.lit (.int .u64 ((10 ^ i : Nat) : Int))) := by rw [← hx1.1]; simp [hi]
  rw [List.getElem?_map, hx, e2] at h2
  simp only [Option.map_some, Option.some.injEq, DataW.lit.injEq, Lit.int.injEq, true_and] at h2
  have h3 : csP.toList[i]? = some (.int .u64 n) := by
   have := congrArg (·[0]?) e1
   simpa [List.getElem?_take, List.getElem?_drop] using this
  rw [h3, h2]
  simp [hi]
 ·rw [List.getElem?_eq_none (by omega), List.getElem?_eq_none (by simp; omega)]

theorem gAs : Tryz.prog.globalNamed "strings.asciiSpace" = some 0 := by kernel_rfl

theorem tAs : (Tryz.prog.globals[0]?).map (·.type) = some 206 := by kernel_rfl

set_option maxRecDepth 100000 in
theorem of_laidA {W : World} (h : laidMetH Tryz.prog lay4 W) : ∃ cs, W.var? Tryz.prog "strings.asciiSpace" = some cs ∧ cs.toList = ascC := by
 rw [MakeChecks.laidMetH_plain _ _ _ (by kernel_rfl)] at h
 obtain ⟨ps, ⟨g0, t0, cs0, f0, p0, q0, hg0, ht0, hv0, hd0, ⟨g1, t1, cs1, f1, p1, q1, hg1, ht1, hv1, hd1, ⟨gP, tP, csP, fP, pP, qP, hgP, htP, hvP, hdP, ⟨g3, t3, cs3, f3, p3, q3, hg3, ht3, hv3, hd3, ⟨gA, tA, csA, fA, pA, qA, hgA, htA, hvA, hdA, _, _⟩, _⟩, _⟩, _⟩, _⟩, _, _⟩ := h
 obtain rfl := Option.some.inj (gAs.symm.trans hgA)
 refine ⟨csA, hvA, ?_⟩
 obtain rfl := Option.some.inj (tAs.symm.trans htA)
 obtain ⟨xs, m1, rfl, hx1, hlen, hn, hel⟩ := DataW.trod_array Tryz.underlying206 hdA
 have c1 : Tryz.prog.cellsOf 5 = 1 := by kernel_rfl
 have c20 : Tryz.prog.cellsOf 206 = 256 := by kernel_rfl
 rw [c20] at hlen
 have hd : (Rows.laid_strings_asciiSpace : DataW Unit) = .agg ((List.range 256).map fun i => .lit (.int .u8 (if i = 9 ∨ i = 10 ∨ i = 11 ∨ i = 12 ∨ i = 13 ∨ i = 32 then 1 else 0))) := by kernel_rfl
 rw [hd] at hx1
 simp only [Prod.mk.injEq, DataW.agg.injEq] at hx1
 apply List.ext_getElem?
 intro i
 rcases Nat.lt_or_ge i 256 with hi | hi
 ·have h1 := hel i hi
  rw [c1, Nat.mul_one] at h1
  obtain ⟨x, hx⟩ : ∃ x, xs[i]? = some x := ⟨xs[i]'(by omega), by simp [hn, hi]⟩
  rw [hx] at h1
  obtain ⟨n, e1, e2, _⟩ := DataW.trod_int Tryz.underlying5 h1
  have h2 : (xs.map (·.1))[i]? = some (.lit (.int .u8 (if i = 9 ∨ i = 10 ∨ i = 11 ∨ i = 12 ∨ i = 13 ∨ i = 32 then 1 else 0))) := by rw [← hx1.1]; simp only [List.getElem?_map, List.getElem?_range hi, Option.map_some]
  rw [List.getElem?_map, hx, e2] at h2
  simp only [Option.map_some, Option.some.injEq, DataW.lit.injEq, Lit.int.injEq, true_and] at h2
  have h3 : csA.toList[i]? = some (.int .u8 n) := by
   have := congrArg (·[0]?) e1
   simpa [List.getElem?_take, List.getElem?_drop] using this
  rw [h3, h2]
  simp only [ascC, List.getElem?_map, List.getElem?_range hi, Option.map_some]
 ·rw [List.getElem?_eq_none (by omega), List.getElem?_eq_none (by simp [ascC]; omega)]

set_option maxRecDepth 100000 in
theorem lay_of {W : World} (h : laidMetH Tryz.prog lay4 W) : (∀ (b o : Nat) (c : Value), laidC b o = some c → W.cell? ⟨b, o, none⟩ = some c) ∧
  ∀ (b : Nat) (c : Value), laidC b 0 = some c → ∃ cs ty fz, W.heap[b]? = some (.cells cs ty fz) ∧ cs.size = laidN b := by
 obtain ⟨cs, hv, hl⟩ := of_laidP h
 obtain ⟨cs', hv', hl'⟩ := of_laidA h
 have hb : ∀ (b o : Nat) (c : Value), laidC b o = some c → b = 2 ∨ b = 0 := by
  intro b o c hc
  unfold laidC laidL at hc
  by_cases hb : b = 2
  ·exact .inl hb
  ·by_cases hb' : b = 0
   ·exact .inr hb'
   ·have h1 : (2 == b) = false := by simpa using fun h => hb h.symm
    have h2 : (0 == b) = false := by simpa using fun h => hb' h.symm
    simp [h1, h2] at hc
 have hs : cs.size = 20 := by rw [← Array.length_toList, hl]; simp
 have hs' : cs'.size = 256 := by rw [← Array.length_toList, hl']; simp [ascC]
 refine ⟨fun b o c hc => ?_, fun b c hc => ?_⟩
 ·rcases hb b o c hc with rfl | rfl
  ·have h1 : laidC 2 o = ((List.range 20).map fun i => Value.int .u64 ((10 ^ i : Nat) : Int))[o]? := rfl
   rw [World.var?_cell gPw hv, ← Array.getElem?_toList, hl, ← h1, hc]
  ·have h1 : laidC 0 o = ascC[o]? := rfl
   rw [World.var?_cell gAs hv', ← Array.getElem?_toList, hl', ← h1, hc]
 ·rcases hb b 0 c hc with rfl | rfl
  ·unfold World.var? at hv
   rw [gPw] at hv
   simp only [Option.bind_some] at hv
   split at hv
   ·rename_i cs0 ty fz hh
    have he : cs0 = cs := Option.some.inj hv
    exact ⟨cs0, ty, fz, hh, by rw [he, hs]; rfl⟩
   ·cases hv
  ·unfold World.var? at hv'
   rw [gAs] at hv'
   simp only [Option.bind_some] at hv'
   split at hv'
   ·rename_i cs0 ty fz hh
    have he : cs0 = cs' := Option.some.inj hv'
    exact ⟨cs0, ty, fz, hh, by rw [he, hs']; kernel_rfl⟩
   ·cases hv'

set_option maxRecDepth 100000 in
theorem door_met (os : Os) (args : Array Value) : laidMetH Tryz.prog lay4 ((World.doorLaid Tryz.prog 400 os).forCall (fun _ _ => 0) ⟨#[], args, []⟩).memory :=
 laidMetH_of_parts3 (fuel := 8) (laidMet_of_run' 8 (by kernel_rfl) (by kernel_rfl)) (by kernel_rfl) (by kernel_rfl)
end Go.Proofs.YtpggidmbnjfmaaaGreatDoor
