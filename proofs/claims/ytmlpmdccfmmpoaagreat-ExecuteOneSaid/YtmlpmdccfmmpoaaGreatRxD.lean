/- Chapter 35's reference: Parts. -/
import Derived.Test.YtmlpmdccfmmpoaaGreatRxC
set_option linter.unusedSimpArgs false
set_option linter.unusedVariables false
set_option maxHeartbeats 4000000
set_option maxRecDepth 8000
namespace Go.Proofs.YtmlpmdccfmmpoaaGreat
open E

def nxS (last:Int) (n:Int) (p:Part):Int:=if last<p.acc∧(n<0∨p.acc<n) then p.acc else n
def nxA (last:Int) (l:List Part):Int:=l.foldl (nxS last) (-1)
theorem nxA_next {last:Int} {l:List Part} {i:Nat} {x:Part} (h:l[i]?=some x):nxA last (l.take (i+1))=nxS last (nxA last (l.take i)) x:=by
 unfold nxA; rw [take_next h,List.foldl_append]; rfl
theorem nxA_spec {last:Int} (h0 : -1≤last) (l:List Part) (ha : ∀p∈l,0≤p.acc) : ∀i,i≤l.length→(nxA last (l.take i) = -1∧∀p∈l.take i,p.acc≤last)∨(last<nxA last (l.take i)∧(∃p∈l.take i,p.acc=nxA last (l.take i))∧∀p∈l.take i,last<p.acc→nxA last (l.take i)≤p.acc)
 | 0,_=>.inl ⟨rfl,by simp⟩
 | i+1,hi=>by
  obtain⟨x,hx⟩:=get_of_lt (show i<l.length by omega)
  have ih:=nxA_spec h0 l ha i (by omega)
  have hxa:=ha x (List.mem_of_getElem? hx)
  rw [nxA_next hx]
  generalize nxA last (l.take i)=n at *
  rw [take_next hx]
  unfold nxS
  by_cases hc:last<x.acc∧(n<0∨x.acc<n)
  ·rw [if_pos hc]
   refine .inr ⟨hc.1,⟨x,by simp,rfl⟩,fun p hp hpl=>?_⟩
   rcases List.mem_append.1 hp with hp | hp
   ·rcases ih with ⟨e,hb⟩ | ⟨e1,e2,e3⟩
    ·have:=hb p hp; omega
    ·have:=e3 p hp hpl
     rcases hc.2 with h | h<;>omega
   ·simp at hp; subst hp; exact Int.le_refl _
  ·rw [if_neg hc]
   rcases ih with ⟨e,hb⟩ | ⟨e1,⟨q,e2,e4⟩,e3⟩
   ·refine .inl ⟨e,fun p hp=>?_⟩
    rcases List.mem_append.1 hp with hp | hp
    ·exact hb p hp
    ·simp at hp; subst hp
     have : ¬last<p.acc:=fun h=>hc ⟨h,.inl (by omega)⟩
     omega
   ·refine .inr ⟨e1,⟨q,by simp [e2],e4⟩,fun p hp hpl=>?_⟩
    rcases List.mem_append.1 hp with hp | hp
    ·exact e3 p hp hpl
    ·simp at hp; subst hp
     have : ¬p.acc<n:=fun h=>hc ⟨hpl,.inr h⟩
     omega
def outP (l:List Part) (K:List Int):List Part:=(K.filter fun k=>sumAt l k != 0).map fun k=>⟨k,sumAt l k⟩
theorem sumAt_next {l:List Part} {i:Nat} {x:Part} (h:l[i]?=some x) (k:Int):sumAt (l.take (i+1)) k=sumAt (l.take i) k+(if x.acc=k then x.amt else 0):=by
 unfold sumAt; rw [take_next h,List.map_append,List.sum_append]; simp
theorem sumAt_bdR {k:Int} : ∀{l:List Part},(∀p∈l,-1000000000000000≤p.amt∧p.amt≤1000000000000000)→-(1000000000000000*(l.length:Int))≤sumAt l k∧sumAt l k≤1000000000000000*(l.length:Int)
 | [],_=>by simp [sumAt]
 | p::l,h=>by
  have ih:=sumAt_bdR (k:=k) (l:=l) fun q hq=>h q (by simp [hq])
  have h1:=h p (by simp)
  rw [sumAt_cons,List.length_cons]
  push_cast
  split<;>omega
theorem nx_key {l:List Part} {last:Int} {m:Nat} (h0 : -1≤last) (ha : ∀p∈l,0≤p.acc) (hd : ∀k∈(keysOf l).drop m,last<k) (ht : ∀k∈(keysOf l).take m,k≤last) (hm:m≤(keysOf l).length) :
  (nxA last l = -1∧m=(keysOf l).length)∨(0≤nxA last l∧(keysOf l)[m]?=some (nxA last l)):=by
 have hs:=nxA_spec h0 l ha l.length (Nat.le_refl _)
 rw [List.take_of_length_le (Nat.le_refl _)] at hs
 have hK:=keysOf_sorted l
 rcases hs with ⟨e,hb⟩ | ⟨e1,⟨q,e2,e4⟩,e3⟩
 ·refine .inl ⟨e,?_⟩
  rcases Nat.lt_or_ge m (keysOf l).length with h | h
  ·have hmem:(keysOf l)[m]∈(keysOf l).drop m:=by rw [List.drop_eq_getElem_cons h]; exact List.mem_cons_self
   have h1:=hd _ hmem
   obtain⟨p,hp,hpe⟩:=keysOf_mem.1 (List.getElem_mem h)
   have:=hb p hp
   omega
  ·omega
 ·have hq:nxA last l∈keysOf l:=keysOf_mem.2 ⟨q,e2,e4⟩
  have hq2:nxA last l∈(keysOf l).drop m:=by
   have:=List.take_append_drop m (keysOf l)
   rw [←this] at hq
   rcases List.mem_append.1 hq with h | h
   ·have:=ht _ h; omega
   ·exact h
  have h:m<(keysOf l).length:=by
   rcases Nat.lt_or_ge m (keysOf l).length with h | h
   ·exact h
   ·rw [List.drop_of_length_le h] at hq2; simp at hq2
  refine .inr ⟨by omega,?_⟩
  have hmem:(keysOf l)[m]∈(keysOf l).drop m:=by rw [List.drop_eq_getElem_cons h]; exact List.mem_cons_self
  have h1:=hd _ hmem
  obtain⟨p,hp,hpe⟩:=keysOf_mem.1 (List.getElem_mem h)
  have h2:=e3 p hp (by omega)
  rw [List.drop_eq_getElem_cons h] at hq2
  have h3:(keysOf l)[m]≤nxA last l:=by
   rcases List.mem_cons.1 hq2 with h | h4
   ·omega
   ·have hKd:=hK.drop (i:=m)
    rw [List.drop_eq_getElem_cons h] at hKd
    have:=(List.pairwise_cons.1 hKd).1 _ h4
    omega
  rw [List.getElem?_eq_getElem h]
  congr 1; omega
def prtO (r:Option (List Part)):V:=match r with
 | some ps=>.tup [.t (.sl (ps.map Part.c)),vI 0]
 | none=>.tup [.t (.sl []),vI 2]
theorem w_rparts35 (l:List Part) (ha : ∀p∈l,0≤p.acc∧p.acc≤1000000) (hm : ∀p∈l,-1000000000000000≤p.amt∧p.amt≤1000000000000000) (hlen:l.length≤1001):Pure Tryz.prog 56 [Part.l l] (prtO (partsR l)):=by
 have hKl:=keysOf_len l
 have hka : ∀k∈keysOf l,0≤k∧k≤1000000:=fun k hk=>by obtain⟨p,hp,rfl⟩:=keysOf_mem.1 hk; exact ha p hp
 have hKs:=keysOf_sorted l
 have hkey:=fun (last:Int) (m:Nat) (h0 : -1≤last)=>nx_key (l:=l) (last:=last) (m:=m) h0 fun p hp=>(ha p hp).1
 generalize hR:partsR l=R
 unfold partsR at hR
 generalize hKK:keysOf l=K at *
 (refine Pure.of_code mix Tryz.call56 k_56 (by simp) (fun hB=>?_); (try simp at hB); (try simp -implicitDefEqProofs [qc_56]))
 refine loop_grow [(.slot 4,45,2)] (X:=Nat×Int) (fun X=>X.1≤K.length∧(∀k∈K.drop X.1,X.2<k)∧(∀k∈K.take X.1,k≤X.2)∧-1≤X.2∧X.2≤1000000∧∀k∈K.take X.1,amtB (sumAt l k)=true)
  (fun X=>[(0,Part.l l),(4,.own 0 45 2 ((outP l (K.take X.1)).map Part.c)),(5,vI X.2)]) (fun X=>⟨[],[(outP l (K.take X.1)).length]⟩) (fun X=>K.length-X.1+1) (0,-1)
  ⟨by omega,fun k hk=>by have:=hka k (by simpa using hk); omega,by simp,by omega,by omega,by simp⟩ (by simp [outP]) ?_
 rintro ⟨m,last⟩ ⟨hmK,hd,ht,hl0,hl1,hamt⟩ hbd
 simp only [] at hmK hd ht hl0 hl1 hamt
 clear hbd
 have hol:(outP l (K.take m)).length≤1001:=by
  unfold outP
  rw [List.length_map]
  have h1:=List.length_filter_le (fun k=>sumAt l k != 0) (K.take m)
  have h2:(K.take m).length≤K.length:=by simp; omega
  omega
 generalize hO:outP l (K.take m)=O at *
 ((try simp -implicitDefEqProofs); repeat' first | ((with_reducible first | apply gdK_em | apply cdK_em | apply pickK_em)<;>(intro hc; have hc':=hc; (try simp at hc'); simp -implicitDefEqProofs [hc,hc'])))
 refine loop_rule (X:=Nat) (fun i=>i≤l.length) (fun i=>[(0,Part.l l),(4,.own 0 45 2 (O.map Part.c)),(5,vI last),(6,vI (nxA last (l.take i))),(7,vI i)]) (fun _=>⟨[],[O.length]⟩) (fun i=>l.length-i) 0 (by omega) (by simp [nxA]) ?_
 rintro i hi hbd
 clear hbd
 rcases Nat.lt_or_ge i l.length with h | h
 ·obtain⟨x,hx⟩:=get_of_lt h
  have e3:IntKind.i64.wrap ((i:Int)+1)=(i:Int)+1:=wrap64 (by omega) (by omega)
  have hxc:(l.map Part.c)[i]?=some x.c:=by simp [hx]
  have hxc' : ∀h,(l.map Part.c)[i]'h=x.c:=fun h=>by rw [List.getElem?_eq_getElem h] at hxc; exact Option.some.inj hxc
  have hnx:=nxA_next (last:=last) hx
  have hfin : ∀v:Int,nxA last (l.take (i+1))=v→∃z':Nat,z'≤l.length∧l.length-z'<l.length-i∧nxA last (l.take z')=v∧(z':Int)=(i:Int)+1:=fun v hv=>⟨i+1,by omega,by omega,hv,by push_cast; rfl⟩
  generalize nxA last (l.take i)=n at *
  obtain⟨ac,am⟩:=x
  unfold nxS at hnx
  simp only [] at hnx
  by_cases c1:last<ac
  ·by_cases c2:n<0
   ·rw [if_pos ⟨c1,.inl c2⟩] at hnx
    ((try simp -implicitDefEqProofs [h,hxc,hxc',Part.c,c1,c2,e3]); repeat' first | ((with_reducible first | apply gdK_em | apply cdK_em | apply pickK_em)<;>(intro hc; have hc':=hc; (try simp at hc'); simp -implicitDefEqProofs [hc,hc',h,hxc,hxc',Part.c,c1,c2,e3])))
    exact hfin _ hnx
   ·by_cases c3:ac<n
    ·rw [if_pos ⟨c1,.inr c3⟩] at hnx
     ((try simp -implicitDefEqProofs [h,hxc,hxc',Part.c,c1,c2,c3,e3]); repeat' first | ((with_reducible first | apply gdK_em | apply cdK_em | apply pickK_em)<;>(intro hc; have hc':=hc; (try simp at hc'); simp -implicitDefEqProofs [hc,hc',h,hxc,hxc',Part.c,c1,c2,c3,e3])))
     exact hfin _ hnx
    ·rw [if_neg (fun h=>h.2.elim c2 c3)] at hnx
     ((try simp -implicitDefEqProofs [h,hxc,hxc',Part.c,c1,c2,c3,e3]); repeat' first | ((with_reducible first | apply gdK_em | apply cdK_em | apply pickK_em)<;>(intro hc; have hc':=hc; (try simp at hc'); simp -implicitDefEqProofs [hc,hc',h,hxc,hxc',Part.c,c1,c2,c3,e3])))
     exact hfin _ hnx
  ·rw [if_neg (fun h=>c1 h.1)] at hnx
   ((try simp -implicitDefEqProofs [h,hxc,hxc',Part.c,c1,e3]); repeat' first | ((with_reducible first | apply gdK_em | apply cdK_em | apply pickK_em)<;>(intro hc; have hc':=hc; (try simp at hc'); simp -implicitDefEqProofs [hc,hc',h,hxc,hxc',Part.c,c1,e3])))
   exact hfin _ hnx
 have hie:i=l.length:=by omega
 subst hie
 rw [List.take_of_length_le (Nat.le_refl _)]
 rcases hkey last m hl0 hd ht hmK with ⟨e,em⟩ | ⟨e1,e2⟩
 ·rw [e]
  subst em
  rw [List.take_of_length_le (Nat.le_refl _)] at hamt hO
  rw [if_pos (List.all_eq_true.2 fun k hk=>hamt k hk)] at hR
  have hRO:R=some O:=by rw [←hR,←hO]; rfl
  rw [hRO]
  ((try simp -implicitDefEqProofs [prtO]); repeat' first | ((with_reducible first | apply gdK_em | apply cdK_em | apply pickK_em)<;>(intro hc; have hc':=hc; (try simp at hc'); simp -implicitDefEqProofs [hc,hc',prtO])))
 ·generalize hk:nxA last l=k at *
  have hkm:k∈K:=List.mem_of_getElem? e2
  have hmK2:=lt_of_get e2
  have hkb:=hka k hkm
  have e4 : ¬k<0:=by omega
  have hO2:outP l (K.take (m+1))=O++(if sumAt l k=0 then [] else [⟨k,sumAt l k⟩]):=by
   rw [←hO,take_next e2]
   unfold outP
   rw [List.filter_append,List.map_append]
   congr 1
   by_cases hz:sumAt l k=0
   ·rw [if_pos hz]; simp [hz]
   ·rw [if_neg hz]; simp [hz]
  have hnext:amtB (sumAt l k)=true→((m+1≤K.length∧(∀k'∈K.drop (m+1),k<k')∧(∀k'∈K.take (m+1),k'≤k)∧-1≤k∧k≤1000000∧∀k'∈K.take (m+1),amtB (sumAt l k')=true)∧K.length-(m+1)<K.length-m):=fun hz=>by
   refine⟨⟨by omega,fun k' hk'=>?_,fun k' hk'=>?_,by omega,by omega,fun k' hk'=>?_⟩,by omega⟩
   ·have hg:=(List.getElem?_eq_some_iff.1 e2).2
    have hKd:=hKs.drop (i:=m)
    rw [List.drop_eq_getElem_cons hmK2,hg] at hKd
    exact (List.pairwise_cons.1 hKd).1 _ hk'
   ·rw [take_next e2] at hk'
    rcases List.mem_append.1 hk' with h1 | h1
    ·have h2:=ht _ h1
     have hg:=(List.getElem?_eq_some_iff.1 e2).2
     have hmem:k∈K.drop m:=by rw [List.drop_eq_getElem_cons hmK2,hg]; exact List.mem_cons_self
     have:=hd _ hmem
     omega
    ·simp at h1; omega
   ·rw [take_next e2] at hk'
    rcases List.mem_append.1 hk' with h1 | h1
    ·exact hamt _ h1
    ·simp at h1; rw [h1]; exact hz
  have hbad:amtB (sumAt l k)=false→R=none:=fun hz=>by
   rw [if_neg (fun h=>by have:=List.all_eq_true.1 h k hkm; rw [hz] at this; cases this)] at hR
   exact hR.symm
  ((try simp -implicitDefEqProofs [e4]); repeat' first | ((with_reducible first | apply gdK_em | apply cdK_em | apply pickK_em)<;>(intro hc; have hc':=hc; (try simp at hc'); simp -implicitDefEqProofs [hc,hc',e4])))
  refine loop_rule (X:=Nat) (fun i=>i≤l.length) (fun i=>[(0,Part.l l),(4,.own 0 45 2 (O.map Part.c)),(6,vI k),(8,vI (sumAt (l.take i) k)),(9,vI i)]) (fun _=>⟨[],[O.length]⟩) (fun i=>l.length-i) 0 (by omega) (by simp [sumAt]) ?_
  rintro i hi hbd
  clear hbd
  rcases Nat.lt_or_ge i l.length with h | h
  ·obtain⟨x,hx⟩:=get_of_lt h
   have e3:IntKind.i64.wrap ((i:Int)+1)=(i:Int)+1:=wrap64 (by omega) (by omega)
   have hxc:(l.map Part.c)[i]?=some x.c:=by simp [hx]
   have hxc' : ∀h,(l.map Part.c)[i]'h=x.c:=fun h=>by rw [List.getElem?_eq_getElem h] at hxc; exact Option.some.inj hxc
   have hsn:=sumAt_next hx k
   have hbd:=sumAt_bdR (k:=k) (l:=l.take (i+1)) fun p hp=>hm p (List.mem_of_mem_take hp)
   have hlt:(l.take (i+1)).length≤1001:=by simp; omega
   have hfin : ∀v:Int,sumAt (l.take (i+1)) k=v→∃z':Nat,z'≤l.length∧l.length-z'<l.length-i∧sumAt (l.take z') k=v∧(z':Int)=(i:Int)+1:=fun v hv=>⟨i+1,by omega,by omega,hv,by push_cast; rfl⟩
   generalize sumAt (l.take i) k=n at *
   generalize sumAt (l.take (i+1)) k=n' at *
   have hw:IntKind.i64.wrap n'=n':=wrap64 (by omega) (by omega)
   obtain⟨ac,am⟩:=x
   simp only [] at hsn
   by_cases c1:ac=k
   ·rw [if_pos c1] at hsn
    have hw2:IntKind.i64.wrap (n+am)=n':=by rw [←hsn]; exact hw
    subst c1
    ((try simp -implicitDefEqProofs [h,hxc,hxc',Part.c,hw2,e3]); repeat' first | ((with_reducible first | apply gdK_em | apply cdK_em | apply pickK_em)<;>(intro hc; have hc':=hc; (try simp at hc'); simp -implicitDefEqProofs [hc,hc',h,hxc,hxc',Part.c,hw2,e3])))
    exact hfin _ rfl
   ·rw [if_neg c1,Int.add_zero] at hsn
    have c2:(ac==k)=false:=by simpa using c1
    ((try simp -implicitDefEqProofs [h,hxc,hxc',Part.c,c1,c2,e3]); repeat' first | ((with_reducible first | apply gdK_em | apply cdK_em | apply pickK_em)<;>(intro hc; have hc':=hc; (try simp at hc'); simp -implicitDefEqProofs [hc,hc',h,hxc,hxc',Part.c,c1,c2,e3])))
    exact hfin _ hsn
  have hie:i=l.length:=by omega
  subst hie
  rw [List.take_of_length_le (Nat.le_refl _)]
  have hra:=w_ramt (sumAt l k)
  generalize sumAt l k=n at *
  cases hz:amtB n
  ·rw [hz] at hra
   rw [hbad hz]
   ((try simp at hra); (try simp -implicitDefEqProofs [prtO]); repeat' first | ((with_reducible first | apply gdK_em | apply cdK_em | apply pickK_em)<;>(intro hc; have hc':=hc; (try simp at hc'); simp -implicitDefEqProofs [hc,hc',prtO])) | (with_reducible apply callK_pure<;>first | (simp only [eras,era,eras_map]; first | with_reducible exact hra | simpa using hra) | (simp -implicitDefEqProofs [prtO])))
  ·rw [hz] at hra
   have hnx:=hnext hz
   have o1:O.length≤9223372036854775806:=by omega
   have o2:(O.length+1)*16≤140737488355328:=by omega
   by_cases hn0:n=0
   ·have hn1:(n==0)=true:=by simpa using hn0
    rw [if_pos hn0,List.append_nil] at hO2
    subst hn0
    ((try simp at hra); (try simp -implicitDefEqProofs); repeat' first | ((with_reducible first | apply gdK_em | apply cdK_em | apply pickK_em)<;>(intro hc; have hc':=hc; (try simp at hc'); simp -implicitDefEqProofs [hc,hc'])) | (with_reducible apply callK_pure<;>first | (simp only [eras,era,eras_map]; first | with_reducible exact hra | simpa using hra) | (simp -implicitDefEqProofs)))
    refine⟨m+1,k,hnx.1,hnx.2,by rw [hO2],by rw [hO2]; exact leA.refl _,rfl⟩
   ·have hn1:(n==0)=false:=by simpa using hn0
    rw [if_neg hn0] at hO2
    have hn2:(n != 0)=true:=by simpa using hn0
    ((try simp at hra); (try simp -implicitDefEqProofs [hn0,hn1,hn2,o1,o2,maxLen]); repeat' first | ((with_reducible first | apply gdK_em | apply cdK_em | apply pickK_em)<;>(intro hc; have hc':=hc; (try simp at hc'); simp -implicitDefEqProofs [hc,hc',hn0,hn1,hn2,o1,o2,maxLen])) | (with_reducible apply callK_pure<;>first | (simp only [eras,era,eras_map]; first | with_reducible exact hra | simpa using hra) | (simp -implicitDefEqProofs [hn0,hn1,hn2,o1,o2,maxLen])))
    refine⟨m+1,k,hnx.1,hnx.2,by rw [hO2]; simp,by rw [hO2,List.map_append]; exact leA.refl _,rfl⟩
end Go.Proofs.YtmlpmdccfmmpoaaGreat
