/- Contracts of slices.IndexFunc and slices.ContainsFunc, whatever the function is that they are handed. Printed by gen_slices.py. -/
import Derived.Test.YtmlpmdccfmmpoaaGreatCodeM
import Derived.Test.YtmlpmdccfmmpoaaGreatMaps
set_option linter.unusedSimpArgs false
set_option linter.unusedVariables false
set_option maxHeartbeats 400000
set_option maxRecDepth 8000
namespace Go.Proofs.YtmlpmdccfmmpoaaGreat
open E

def OkS (S:St):Prop:=leS S S
theorem Wl:OkS St0:=⟨trivial,trivial⟩
def G8 {α:Type} (q:α→Bool) (l:List α):Int:=match l.findIdx? q with|some i=>i|none=>-1
theorem Hp {α:Type} {q:α→Bool} {l:List α} {k:Nat} {x:α} (h:l[k]?=some x) (hn : ∀y∈l.take k,q y=false) (hq:q x=true):G8 q l=k:=by
  have hk:=A5 h
  have:l.findIdx? q=some k:=by
    rw [List.findIdx?_eq_some_iff_getElem]
    refine ⟨hk, by have : l[k] = x := by simpa [hk] using h
                   rw [this];exact hq,fun j hj=>?_⟩
    have:=hn l[j] (List.mem_iff_getElem?.2 ⟨j,by rw [List.getElem?_take,if_pos hj];simp [show j<l.length by omega]⟩)
    simp [this]
  simp [G8,this]
theorem Im {α:Type} {q:α→Bool} {l:List α} (hn : ∀y∈l,q y=false):G8 q l = -1:=by
 have:l.findIdx? q=none:=by rw [List.findIdx?_eq_none_iff];exact fun x hx=>hn x hx
 simp [G8,this]
theorem Lx {α:Type} (q:α→Bool) (l:List α):decide (0≤G8 q l)=l.any q:=by
 unfold G8
 cases h:l.findIdx? q with
 | none=>rw [List.findIdx?_eq_none_iff] at h;simp;intro x hx;simpa using h x hx
 | some i=>rw [List.findIdx?_eq_some_iff_getElem] at h;obtain⟨h1,h2,_⟩:=h;simp;exact⟨l[i],List.getElem_mem h1,h2⟩










end Go.Proofs.YtmlpmdccfmmpoaaGreat
