/- The laid variables of chapter 33's rows. -/
import Derived.Test.YtnlkppaehbopaaaDoorRowL
import Derived.Test.YtnlkppaehbopaaaDoorRows
import Derived.Test.YtnlkppaehbopaaaDoorTie
import Derived.ProofKit
import Derived.Carry
import Derived.LaidMore
import Derived.OpenShut
import Derived.Stop.Joined
set_option linter.unusedSimpArgs false
set_option linter.unusedVariables false
namespace Go.Proofs.YtnlkppaehbopaaaDoor
open Go.ChangeShapes Go.WideShapes Go.ChangeAt Go.RowKit E

/-- The rows' list of laid variables. -/
def lay33 : List (String × DataW Unit) := [("unicode.White_Space", Rows.laid_unicode_White_Space), ("strings.asciiSpace", Rows.laid_strings_asciiSpace)]
/-- The cells of strings.asciiSpace. -/
def ascC : List Value := (List.range 256).map fun i => Value.int .u8 (if i = 9 ∨ i = 10 ∨ i = 11 ∨ i = 12 ∨ i = 13 ∨ i = 32 then 1 else 0)
theorem gPow : Tryd.prog.globalNamed "strings.asciiSpace" = some 0 := by kernel_rfl

theorem tPow : (Tryd.prog.globals[0]?).map (·.type) = some 145 := by kernel_rfl

set_option maxRecDepth 100000 in
theorem of_laid {W : World} (h : laidMetH Tryd.prog lay33 W) : ∃ cs, W.var? Tryd.prog "strings.asciiSpace" = some cs ∧ cs.toList = ascC := by
  rw [MakeChecks.laidMetH_plain _ _ _ (by kernel_rfl)] at h
  obtain ⟨ps, ⟨g0, t0, cs0, f0, p0, q0, hg0, ht0, hv0, hd0, ⟨g2, t2, cs2, f2, p2, q2, hg2, ht2, hv2, hd2, _, _⟩, _⟩, _, _⟩ := h
  obtain rfl := Option.some.inj (gPow.symm.trans hg2)
  refine ⟨cs2, hv2, ?_⟩
  obtain rfl := Option.some.inj (tPow.symm.trans ht2)
  obtain ⟨xs, m1, rfl, hx1, hlen, hn, hel⟩ := DataW.trod_array Tryd.underlying145 hd2
  have c1 : Tryd.prog.cellsOf 5 = 1 := by kernel_rfl
  have c20 : Tryd.prog.cellsOf 145 = 256 := by kernel_rfl
  rw [c20] at hlen
  have hd : (Rows.laid_strings_asciiSpace : DataW Unit) = .agg ((List.range 256).map fun i => .lit (.int .u8 (if i = 9 ∨ i = 10 ∨ i = 11 ∨ i = 12 ∨ i = 13 ∨ i = 32 then 1 else 0))) := by kernel_rfl
  rw [hd] at hx1
  simp only [Prod.mk.injEq, DataW.agg.injEq] at hx1
  apply List.ext_getElem?
  intro i
  rcases Nat.lt_or_ge i 256 with hi | hi
  · have h1 := hel i hi
    rw [c1, Nat.mul_one] at h1
    obtain ⟨x, hx⟩ : ∃ x, xs[i]? = some x := ⟨xs[i]'(by omega), by simp [hn, hi]⟩
    rw [hx] at h1
    obtain ⟨n, e1, e2, _⟩ := DataW.trod_int Tryd.underlying5 h1
    have h2 : (xs.map (·.1))[i]? = some (.lit (.int .u8 (if i = 9 ∨ i = 10 ∨ i = 11 ∨ i = 12 ∨ i = 13 ∨ i = 32 then 1 else 0))) := by rw [← hx1.1]; simp only [List.getElem?_map, List.getElem?_range hi, Option.map_some]
    rw [List.getElem?_map, hx, e2] at h2
    simp only [Option.map_some, Option.some.injEq, DataW.lit.injEq, Lit.int.injEq, true_and] at h2
    have h3 : cs2.toList[i]? = some (.int .u8 n) := by
      have := congrArg (·[0]?) e1
      simpa [List.getElem?_take, List.getElem?_drop] using this
    rw [h3, h2]
    simp only [ascC, List.getElem?_map, List.getElem?_range hi, Option.map_some]
  · rw [List.getElem?_eq_none (by omega), List.getElem?_eq_none (by simp [ascC]; omega)]

set_option maxRecDepth 100000 in
/-- What the condition gives the engine. -/
theorem lay_of {W : World} (h : laidMetH Tryd.prog lay33 W) : (∀ (b o : Nat) (c : Value), laidC b o = some c → W.cell? ⟨b, o, none⟩ = some c) ∧
    ∀ (b : Nat) (c : Value), laidC b 0 = some c → ∃ cs ty fz, W.heap[b]? = some (.cells cs ty fz) ∧ cs.size = laidN b := by
  obtain ⟨cs, hv, hl⟩ := of_laid h
  have hb : ∀ (b o : Nat) (c : Value), laidC b o = some c → b = 0 := by
    intro b o c hc
    unfold laidC laidL at hc
    by_cases hb : b = 0
    · exact hb
    · have : (0 == b) = false := by simpa using fun h => hb h.symm
      simp [this] at hc
  have hs : cs.size = 256 := by rw [← Array.length_toList, hl]; simp [ascC]
  refine ⟨fun b o c hc => ?_, fun b c hc => ?_⟩
  · obtain rfl := hb b o c hc
    have h1 : laidC 0 o = ascC[o]? := rfl
    rw [World.var?_cell gPow hv, ← Array.getElem?_toList, hl, ← h1, hc]
  · obtain rfl := hb b 0 c hc
    unfold World.var? at hv
    rw [gPow] at hv
    simp only [Option.bind_some] at hv
    split at hv
    · rename_i cs' ty fz hh
      have he : cs' = cs := Option.some.inj hv
      exact ⟨cs', ty, fz, hh, by rw [he, hs]; kernel_rfl⟩
    · cases hv

set_option maxRecDepth 100000 in
theorem door_met (os : Os) (args : Array Value) : laidMetH Tryd.prog lay33 ((World.doorLaid Tryd.prog 400 os).forCall (fun _ _ => 0) ⟨#[], args, []⟩).memory :=
  laidMetH_of_parts3 (fuel := 8) (laidMet_of_run' 8 (by kernel_rfl) (by kernel_rfl)) (by kernel_rfl) (by kernel_rfl)
end Go.Proofs.YtnlkppaehbopaaaDoor
