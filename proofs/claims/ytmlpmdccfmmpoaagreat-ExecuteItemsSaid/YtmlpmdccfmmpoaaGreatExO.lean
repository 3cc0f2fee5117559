/- Chapter 35: single rules and instances; plain. -/
import Derived.Test.YtmlpmdccfmmpoaaGreatExL
set_option linter.unusedSimpArgs false
set_option linter.unusedVariables false
namespace Go.Proofs.YtmlpmdccfmmpoaaGreat
open E
def zeroP : Posting := ⟨0, 0, 0, 0, []⟩
def runE (c : List Code) (l : List Src) : List Posting × Int :=
 if srcOk l = true ∧ (c.all fun x => (meaR x).2) = true then match runR c l with
  | some q => (q, 0)
  | none => ([], 2)
 else ([], 1)
theorem runR_flat (c : List Code) (l : List Src) : runR c l = gatherR ((List.range c.length).flatMap fun i => (instsR l (c.getD i ⟨[], false, []⟩).pair).map fun z => instR (c.getD i ⟨[], false, []⟩) z.1 z.2 i) := by
 unfold runR allR
 congr 1
 rw [List.flatMap_map]
 have e : c.zipIdx = (List.range c.length).map fun i => (c.getD i ⟨[], false, []⟩, i) := by
  apply List.ext_getElem?
  intro i
  rw [List.getElem?_zipIdx, List.getElem?_map]
  rcases Nat.lt_or_ge i c.length with h | h
  ·simp [h]
  ·simp [h]
 rw [e, List.flatMap_map]
theorem srcOk_iff {l : List Src} : srcOk l = true ↔ (∀ s ∈ l, 0 ≤ s.ent ∧ s.ent < 12 ∧ ∀ x ∈ s.items, amtB x.amt = true) ∧ l.Pairwise fun a b => a.ent < b.ent := by
 constructor
 ·exact fun h => ⟨fun s hs => src_in h hs, src_sorted h⟩
 ·rintro ⟨h1, h2⟩
  unfold srcOk
  rw [Bool.and_eq_true]
  refine ⟨List.all_eq_true.2 fun s hs => by simpa [and_assoc] using h1 s hs, List.all_eq_true.2 fun i hi => ?_⟩
  have hi := List.mem_range.1 hi
  match i, hi with
  | 0, _ => rfl
  | i + 1, hi =>
   have := List.pairwise_iff_getElem.1 h2 i (i + 1) (by omega) hi (by omega)
   simp only [Nat.add_sub_cancel, List.getD_eq_getElem?_getD, List.getElem?_eq_getElem hi, List.getElem?_eq_getElem (show i < l.length by omega), Option.getD_some]
   simp [this]
end Go.Proofs.YtmlpmdccfmmpoaaGreat
