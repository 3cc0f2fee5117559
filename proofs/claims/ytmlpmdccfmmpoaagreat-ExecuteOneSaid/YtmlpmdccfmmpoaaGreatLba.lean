/- Chapter 35: the law ExecuteBalances. -/
import Derived.Test.YtmlpmdccfmmpoaaGreatLea
import Derived.Test.YtmlpmdccfmmpoaaGreatExO
set_option linter.unusedSimpArgs false
set_option linter.unusedVariables false
set_option maxHeartbeats 4000000
set_option maxRecDepth 8000
namespace Go.Proofs.YtmlpmdccfmmpoaaGreat
open E

theorem few35_of {l:List Sou} {cs:List Code} (h:fewE l cs=true):l.length≤13∧cs.length≤10∧(∀c∈cs,c.ins.length≤400)∧∀x∈l,x.items.length≤60:=by
 unfold fewE fewR at h
 simp only [Bool.and_eq_true,List.all_eq_true,decide_eq_true_eq] at h
 exact⟨h.1.2,h.2,fun c hc=>(h.1.1.2 c hc).2,h.1.1.1⟩
theorem src_room {l:List Sou} {cs:List Code} (h:fewE l cs=true) (hw : ∀x∈l,x.wf) : ∀s∈l.map Sou.src,s.num.natAbs≤100000∧0<s.den∧s.den≤100000∧s.items.length≤1000:=by
 intro s hs
 obtain⟨x,hx,rfl⟩:=List.mem_map.1 hs
 have h1:=(few35_of h).2.2.2 x hx
 obtain⟨h2,h3⟩:=hw x hx
 have h4:=low_abs (a:=x.sh) (q:=10000) (by decide)
 have h5:=low_le (a:=x.sh) (q:=10000)
 have h6:=low_pos (a:=x.sh) (q:=10000) (by decide)
 unfold Sou.src
 exact⟨by simp only []; omega,h6,by simp only []; omega,by simp only []; omega⟩
theorem w_runOf {l:List Sou} {cs:List Code} (h:fewE l cs=true) (hw : ∀x∈l,x.wf):Pure Tryz.prog 11 [Code.l cs,Src.l (l.map Sou.src)] (.tup [Posting.l (runE cs (l.map Sou.src)).1,vI (runE cs (l.map Sou.src)).2]):=by
 obtain⟨h1,h2,h3,h4⟩:=few35_of h
 exact w_xRun cs (l.map Sou.src) (by simpa using h1) (by omega) (fun c hc=>by have:=h3 c hc; omega) (src_room h hw)
theorem partsR_len {ps l:List Part} (h:partsR ps=some l):l.length≤ps.length:=by
 unfold partsR at h
 split at h
 ·cases h
  rw [List.length_map]
  exact Nat.le_trans (List.length_filter_le _ _) (keysOf_len ps)
 ·cases h
theorem execR_len {s:Src} {oth:Int} : ∀{l:List Ins} {st loc:List Int} {ps q:List Part},execR s oth l st loc ps=some q→q.length≤ps.length+l.length
 | [],st,loc,ps,q,h=>by cases h; simp
 | x::l,st,loc,ps,q,h=>by
  unfold execR at h
  rw [List.length_cons]
  split at h
  ·have:=execR_len h; omega
  split at h
  ·split at h
   ·cases h; simp
   ·have:=execR_len h; omega
  split at h
  ·have:=execR_len h; rw [List.length_append] at this; simp at this; omega
  split at h
  ·have:=partsR_len h; rw [List.length_append] at this; simp at this; omega
  split at h
  ·have:=execR_len h; omega
  ·cases h
structure BalP (cs:List Code) (p:Posting):Prop where
 kind:p.kind=10
 r0:0≤p.rule
 rl:p.rule<cs.length
 oth : ∀c,cs[p.rule.toNat]?=some c→(p.oth == -1) = !c.pair
 parts:PartsOk p.parts
 two:2≤p.parts.length
 len:p.parts.length≤1000
theorem balP_of {cs:List Code} {l:List Src} {q:List Posting} (hci : ∀c∈cs,c.ins.length≤1000) (hl:srcOk l=true) (h:runR cs l=some q) {p:Posting} (hp:p∈q):BalP cs p:=by
 obtain⟨y,hy,h1,h2,h3,h4,h5,h6,h7⟩:=run_mem h hp
 obtain⟨g1,g2,g3,g4⟩:=idx_mem hy
 have g0:=lt_of_get g1
 refine⟨h2,by omega,by omega,fun c hc=>?_,h6,h6.two h7,?_⟩
 case refine_2=>
  unfold instR at h1
  obtain⟨ps,hx,rfl⟩:=Option.map_eq_some_iff.1 h1
  have hl:=execR_len hx
  have hcl:=hci _ (List.mem_of_getElem? g1)
  simp at hl
  unfold postR
  split
  ·simp
  ·simp only []; omega
 rw [h3,Int.toNat_natCast,g1] at hc
 cases hc
 by_cases hp:y.1.1.pair=true
 ·rw [if_pos hp] at g4
  obtain⟨o,o1,o2,o3,o4⟩:=g4
  have:=(src_in hl o1).1
  rw [hp,h5,←o3]
  simp; omega
 ·rw [if_neg hp] at g4
  rw [Bool.not_eq_true] at hp
  rw [hp,h5,g4]; rfl
end Go.Proofs.YtmlpmdccfmmpoaaGreat
