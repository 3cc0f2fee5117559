/- Contracts of slices.IndexFunc and slices.ContainsFunc, whatever the function is that they are handed. Printed by gen_slices.py. -/
import Derived.Test.YtmlpmdccfmmpoaaGreatCodeM
import Derived.Test.YtmlpmdccfmmpoaaGreatApi
set_option linter.unusedSimpArgs false
set_option linter.unusedVariables false
set_option maxHeartbeats 400000
set_option maxRecDepth 8000
namespace Go.Proofs.YtmlpmdccfmmpoaaGreat
open E

def OkS (S : St) : Prop := leS S S
theorem okS0 : OkS St0 := ⟨trivial, trivial⟩
def idxS {α : Type} (q : α → Bool) (l : List α) : Int := match l.findIdx? q with | some i => i | none => -1
theorem idxS_in {α : Type} {q : α → Bool} {l : List α} {k : Nat} {x : α} (h : l[k]? = some x) (hn : ∀ y ∈ l.take k, q y = false) (hq : q x = true) : idxS q l = k := by
  have hk := lt_of_get h
  have : l.findIdx? q = some k := by
    rw [List.findIdx?_eq_some_iff_getElem]
    refine ⟨hk, by have : l[k] = x := by simpa [hk] using h
                   rw [this]; exact hq, fun j hj => ?_⟩
    have := hn l[j] (List.mem_iff_getElem?.2 ⟨j, by rw [List.getElem?_take, if_pos hj]; simp [show j < l.length by omega]⟩)
    simp [this]
  simp [idxS, this]
theorem idxS_out {α : Type} {q : α → Bool} {l : List α} (hn : ∀ y ∈ l, q y = false) : idxS q l = -1 := by
 have : l.findIdx? q = none := by rw [List.findIdx?_eq_none_iff]; exact fun x hx => hn x hx
 simp [idxS, this]
theorem idxS_any {α : Type} (q : α → Bool) (l : List α) : decide (0 ≤ idxS q l) = l.any q := by
 unfold idxS
 cases h : l.findIdx? q with
 | none => rw [List.findIdx?_eq_none_iff] at h; simp; intro x hx; simpa using h x hx
 | some i => rw [List.findIdx?_eq_some_iff_getElem] at h; obtain ⟨h1, h2, _⟩ := h; simp; exact ⟨l[i], List.getElem_mem h1, h2⟩










end Go.Proofs.YtmlpmdccfmmpoaaGreat
